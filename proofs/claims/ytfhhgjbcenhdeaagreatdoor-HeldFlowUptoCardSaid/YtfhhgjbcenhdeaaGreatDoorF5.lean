/- Parts of the proof. -/
import Derived.Test.YtfhhgjbcenhdeaaGreatDoorF4
import Derived.Maps.RangeRun
set_option linter.unusedSimpArgs false
set_option linter.unusedVariables false
namespace Go.FM
open Go
section
variable {P : Program} {c : Cfg} {Q : Exit -> Fs -> Prop} {s : Fs} {K : Fs -> Prop} {ops : Array Oper} {o : Oper} {rest : List Oper}
def Kont (Q : Exit -> Fs -> Prop) (K : Fs -> Prop) : Prop := ∀ s', Q .normal s' -> K s'
theorem Kont.go (h : Kont Q K) (hq : Q .normal s) : K s := h _ hq
def Fend (keep : List Nat) (ops : Array Oper) (K : Fs -> Prop) (s : Fs) : Prop := K (s.clean (a4b ops) keep)
theorem f4w {id : Nat} (h : ∀ K : Fs -> Prop, Kont Q K -> wOps P c ops ops.toList (Fend c.keep ops K) s) : a2s P c (.region id ops false) Q s := .inl (h _ fun _ h => h)
theorem e9n {id : Nat} (Φ : Fs -> Prop) (hR : RWp P c ops s Φ) (h : ∀ s', Φ s' -> Q .normal (s'.clean (a4b ops) c.keep)) : a2s P c (.region id ops false) Q s := .inr ⟨Φ, hR, h⟩
theorem a2j {id : Nat} (n : Nat) (hm : P.follows .mixedOrders = true) (hB : b7q ops n = true)
 (h : ∀ K : Fs -> Prop, Kont Q K -> awH P c ops n (Fend c.keep ops K) s.H [] 0 ops.toList s []) : a2s P c (.region id ops true) Q s := .inl ⟨hm, n, s.H, [], hB, fun _ _ h => h, h _ fun _ h => h⟩
theorem e4f {id : Nat} (Φ : Fs -> Prop) (hR : RWpD P c ops s Φ) (h : ∀ s', Φ s' -> Q .normal (s'.clean (a4b ops) c.keep)) : a2s P c (.region id ops true) Q s := .inr ⟨Φ, hR, h⟩
def rmv (l0 : Loc) (H : Heap) : Heap := fun l => if l = l0 then none else H l
theorem a5p (l0 : Loc) (H : Heap) (l : Loc) : rmv l0 H l = if l = l0 then none else H l := rfl
theorem e6b (l0 : Loc) (H : Heap) : HSub (rmv l0 H) H := fun l ob hl => by
 unfold rmv at hl
 split at hl
 . cases hl
 . exact hl
def rmvs : List Loc -> Heap -> Heap
 | [], H => H
 | l :: r, H => rmv l (rmvs r H)
theorem b4o : ∀ (r : List Loc) (H : Heap), HSub (rmvs r H) H
 | [], _ => fun _ _ h => h
 | l :: r, H => fun k ob h => b4o r H k ob (e6b l _ k ob h)
theorem d7k {id : Nat} (rs : List Loc) (n : Nat) (hm : P.follows .mixedOrders = true) (hB : b7q ops n = true)
 (h : ∀ K : Fs -> Prop, Kont Q K -> awH P c ops n (Fend c.keep ops K) (rmvs rs s.H) rs 0 ops.toList s []) : a2s P c (.region id ops true) Q s :=
 .inl ⟨hm, n, rmvs rs s.H, rs, hB, b4o rs s.H, h _ fun _ h => h⟩
theorem e9m (h : Q .normal s) : a2s P c .skip Q s := h
theorem f4v (h : Q .ret s) : a2s P c .ret Q s := h
theorem e9o {id : Nat} (h : Q (.exit id) s) : a2s P c (.exit id) Q s := h
def KSeq (P : Program) (c : Cfg) (y : Code) (Q : Exit -> Fs -> Prop) (e : Exit) (s' : Fs) : Prop := match e with
 | .normal => a2s P c y Q s'
 | e => Q e s'
theorem f9s {x y : Code} (h : a2s P c x (KSeq P c y Q) s) : a2s P c (.seq x y) Q s := h
theorem kseq {y : Code} (h : a2s P c y Q s) : KSeq P c y Q .normal s := h
theorem f2u {y : Code} (h : Q .ret s) : KSeq P c y Q .ret s := h
theorem f2v {y : Code} {i : Nat} (h : Q (.exit i) s) : KSeq P c y Q (.exit i) s := h
def KBlk (id : Nat) (Q : Exit -> Fs -> Prop) (e : Exit) (s' : Fs) : Prop := match e with
 | .exit i => if i = id then Q .normal s' else Q (.exit i) s'
 | e => Q e s'
theorem f4z {id : Nat} {b : Code} (h : a2s P c b (KBlk id Q) s) : a2s P c (.block id b) Q s := h
theorem kblk {id : Nat} (h : Q .normal s) : KBlk id Q .normal s := h
theorem f2w {id : Nat} (h : Q .ret s) : KBlk id Q .ret s := h
theorem e0j {id : Nat} (h : Q .normal s) : KBlk id Q (.exit id) s := by simp only [KBlk, if_true]; exact h
theorem a0g {id i : Nat} (hne : (i == id) = false) (h : Q (.exit i) s) : KBlk id Q (.exit i) s := by
 have : i ≠ id := by simpa using hne
 simp only [KBlk, this, if_false]; exact h
theorem a5o : ∀ (code : Code) (Q Q' : Exit -> Fs -> Prop) (s : Fs), (∀ e s, Q e s -> Q' e s) -> a2s P c code Q s -> a2s P c code Q' s
 | .skip, _, _, s, hQ, h => hQ _ s h
 | .label _, _, _, s, hQ, h => hQ _ s h
 | .region _ ops false, Q, Q', s, hQ, .inr ⟨Φ, hR, h⟩ => .inr ⟨Φ, hR, fun s' hs => hQ _ _ (h s' hs)⟩
 | .region _ ops false, Q, Q', s, hQ, .inl h => by
   have mono : ∀ (l : List Oper) (s : Fs), wOps P c ops l (fun s' => Q .normal (s'.clean (a4b ops) c.keep)) s -> wOps P c ops l (fun s' => Q' .normal (s'.clean (a4b ops) c.keep)) s := by
    intro l
    induction l with
    | nil => exact fun s h => hQ _ _ h
    | cons o rest ih =>
      intro s h
      simp only [wOps] at h ⊢
      split at h
      . unfold c9g at h ⊢
        split at h
        . obtain ⟨h1, r, H', h2, s1, h3, h4⟩ := h; exact ⟨h1, r, H', h2, s1, h3, ih _ h4⟩
        . obtain ⟨s1, h1, h2⟩ := h; exact ⟨s1, h1, ih _ h2⟩
      . obtain ⟨s1, h1, h2⟩ := h; exact ⟨s1, h1, ih _ h2⟩
      . exact h
   exact .inl (mono _ _ h)
 | .region _ ops true, Q, Q', s, hQ, .inr ⟨Φ, hR, h⟩ => .inr ⟨Φ, hR, fun s' hs => hQ _ _ (h s' hs)⟩
 | .region _ ops true, Q, Q', s, hQ, .inl h => by
   have mono : ∀ (l : List Oper) (s : Fs), wOps P c ops l (fun s' => Q .normal (s'.clean (a4b ops) c.keep)) s -> wOps P c ops l (fun s' => Q' .normal (s'.clean (a4b ops) c.keep)) s := by
    intro l
    induction l with
    | nil => exact fun s h => hQ _ _ h
    | cons o rest ih =>
      intro s h
      simp only [wOps] at h ⊢
      split at h
      . unfold c9g at h ⊢
        split at h
        . obtain ⟨h1, r, H', h2, s1, h3, h4⟩ := h; exact ⟨h1, r, H', h2, s1, h3, ih _ h4⟩
        . obtain ⟨s1, h1, h2⟩ := h; exact ⟨s1, h1, ih _ h2⟩
      . obtain ⟨s1, h1, h2⟩ := h; exact ⟨s1, h1, ih _ h2⟩
      . exact h
   obtain ⟨hm, n, H0, rs, hB, hsub, hH⟩ := h
   refine .inl ⟨hm, n, H0, rs, hB, hsub, ?_⟩
   have mono2 : ∀ (H0 : Heap) (rs : List Loc) (l : List Oper) (k : Nat) (s : Fs) (As : List Heap), awH P c ops n (fun s' => Q .normal (s'.clean (a4b ops) c.keep)) H0 rs k l s As -> awH P c ops n (fun s' => Q' .normal (s'.clean (a4b ops) c.keep)) H0 rs k l s As := by
    intro H0 rs l
    induction l with
    | nil => exact fun k s As h => hQ _ _ h
    | cons o rest ih =>
      intro k s As h
      simp only [awH] at h ⊢
      split at h
      . rename_i hk
        rw [if_pos hk]
        obtain ⟨d, v, A, Hn, kl, h1, h2, h3, h4, h5, h6⟩ := h
        exact ⟨d, v, A, Hn, kl, h1, h2, h3, h4, h5, ih _ _ _ h6⟩
      . rename_i hk
        rw [if_neg hk]
        exact mono _ _ h
   exact mono2 _ _ _ _ _ _ hH
 | .seq x y, Q, Q', s, hQ, h => a5o x _ _ s (fun e s' h => by
  cases e with
  | normal => exact a5o y Q Q' s' hQ h
  | _ => exact hQ _ _ h) h
 | .cond x t e, Q, Q', s, hQ, h => by
   simp only [a2s] at h ⊢
   split at h
   . exact a5o t Q Q' s hQ h
   . exact a5o e Q Q' s hQ h
   . exact h
 | .block id b, Q, Q', s, hQ, h => a5o b _ _ s (fun e s' h => by
  cases e with
  | exit i =>
    simp only at h ⊢
    split
    . rename_i e; rw [if_pos e] at h; exact hQ _ _ h
    . rename_i e; rw [if_neg e] at h; exact hQ _ _ h
  | _ => exact hQ _ _ h) h
 | .loop b, Q, Q', s, hQ, h => by
   obtain ⟨I, h0, hr⟩ := h
   exact ⟨I, h0, fun n s hI => a5o b _ _ s (fun e s' h => by
    cases e with
    | normal => exact h
    | _ => exact hQ _ _ h) (hr n s hI)⟩
 | .exit id, _, _, s, hQ, h => hQ _ s h
 | .ret, _, _, s, hQ, h => hQ _ s h
 | .rangeFunc .., _, _, s, hQ, h => (h : False).elim
 | .scope _, _, _, s, hQ, h => (h : False).elim
 | .goto _, _, _, s, hQ, h => (h : False).elim
 | .refuse _, _, _, s, hQ, h => (h : False).elim
def c1g (c : Cfg) {σ : Type} (st : σ -> Fs) (μ : σ -> Nat) (x : σ) (Q : Exit -> Fs -> Prop) (e : Exit) (s' : Fs) : Prop := match e with
 | .normal => ∃ y, Gk c (st y) s' /\ μ y < μ x
 | e => Q e s'
theorem a7t {σ : Type} {b : Code} (st : σ -> Fs) (μ : σ -> Nat) (x0 : σ) (h0 : Gk c (st x0) s) (round : ∀ x, a2s P c b (c1g c st μ x Q) (st x)) : a2s P c (.loop b) Q s := by
 refine ⟨fun n s => ∃ x, s = st x /\ μ x = n, ⟨μ x0, st x0, h0, x0, rfl, rfl⟩, ?_⟩
 rintro n s ⟨x, rfl, rfl⟩
 exact a5o _ _ _ _ (fun e s' h => by
  cases e with
  | normal => obtain ⟨y, hy, hm⟩ := h; exact ⟨μ y, st y, hm, hy, y, rfl, rfl⟩
  | _ => exact h) (round x)
theorem a1b {σ : Type} {st : σ -> Fs} {μ : σ -> Nat} {x : σ} (y : σ) (h : Gk c (st y) s) (hm : μ y < μ x) : c1g c st μ x Q .normal s := ⟨y, h, hm⟩
theorem e7l {σ : Type} {st : σ -> Fs} {μ : σ -> Nat} {x : σ} (h : Q .ret s) : c1g c st μ x Q .ret s := h
theorem e7m {σ : Type} {st : σ -> Fs} {μ : σ -> Nat} {x : σ} {i : Nat} (h : Q (.exit i) s) : c1g c st μ x Q (.exit i) s := h
def StK (P : Program) (c : Cfg) (ops : Array Oper) (rest : List Oper) (K : Fs -> Prop) (s' : Option Fs) : Prop := match s' with
 | some s' => wOps P c ops rest K s'
 | none => False
def b0z (P : Program) (c : Cfg) (ops : Array Oper) (o : Oper) (rest : List Oper) (K : Fs -> Prop) (s : Fs) (f : FuncId) (b : Bool) (A : List FV) : Prop :=
 b = true /\ ∃ r H', FC P c.G f A s.H r H' /\ StK P c ops rest K (putD c o r { s with H := H' })
def DoOp (P : Program) (c : Cfg) (ops : Array Oper) (o : Oper) (rest : List Oper) (K : Fs -> Prop) (s : Fs) (x : Option (FuncId × List FV)) : Prop := match x with
 | some (f, A) => b0z P c ops o rest K s f (fnOk P f) A
 | none => StK P c ops rest K (b1q P c o s)
def GOp (P : Program) (c : Cfg) (ops : Array Oper) (o : Oper) (rest : List Oper) (K : Fs -> Prop) (s : Fs) (b : Option Bool) : Prop := match b with
 | some true => DoOp P c ops o rest K s (a1r s o)
 | some false => StK P c ops rest K (putD c o (.tup []) s)
 | none => False
theorem b4j : wOps P c ops [] K s = K s := rfl
theorem b1u : wOps P c ops (o :: rest) K s = GOp P c ops o rest K s (a2d ops o s) := by
 unfold GOp DoOp StK b0z
 simp only [wOps, c9g]
 refine propext ?_
 cases a2d ops o s with
 | none => exact Iff.rfl
 | some b =>
   cases b
   . simp only
     cases putD c o (.tup []) s <;> simp
   . simp only
     cases hc : a1r s o with
     | none => simp only; cases b1q P c o s <;> simp
     | some x =>
       obtain ⟨f, A⟩ := x
       simp only
       refine ⟨fun ⟨h1, r, H', h2, s1, h3, h4⟩ => ⟨h1, r, H', h2, by rw [h3]; exact h4⟩, fun ⟨h1, r, H', h2, h3⟩ => ⟨h1, r, H', h2, ?_⟩⟩
       cases hp : putD c o r { s with H := H' } with
       | none => rw [hp] at h3; exact h3.elim
       | some s1 => rw [hp] at h3; exact ⟨s1, rfl, h3⟩
theorem e2o : GOp P c ops o rest K s (some true) = DoOp P c ops o rest K s (a1r s o) := rfl
theorem e2p : GOp P c ops o rest K s (some false) = StK P c ops rest K (putD c o (.tup []) s) := rfl
theorem c9e : DoOp P c ops o rest K s none = StK P c ops rest K (b1q P c o s) := rfl
theorem c9f {f : FuncId} {A : List FV} : DoOp P c ops o rest K s (some (f, A)) = b0z P c ops o rest K s f (fnOk P f) A := rfl
theorem a4t {f : FuncId} {A : List FV} {r : FV} {H' : Heap} (hfc : FC P c.G f A s.H r H') (h : StK P c ops rest K (putD c o r { s with H := H' })) : b0z P c ops o rest K s f true A := ⟨rfl, r, H', hfc, h⟩
theorem a1e {f : FuncId} {A : List FV} {r : FV} (hpc : PC P c.G f A r) (ha : nls A = true) (h : StK P c ops rest K (putD c o r s)) : b0z P c ops o rest K s f true A := ⟨rfl, r, s.H, hpc.lift ha _, h⟩
theorem c3c {f : FuncId} {A A1 A2 : List FV} {r : FV} (n : Nat) (hpc : PC P c.G f A2 r) (hz : frzs s.H n A = some A1) (ha : asRs A1 A2) (hs : sca r = true) (h : StK P c ops rest K (putD c o r s)) : b0z P c ops o rest K s f true A := ⟨rfl, r, s.H, hpc.lend hz ha hs, h⟩
theorem f7z (h : DoOp P c ops o rest K s (a1r s o)) : GOp P c ops o rest K s (some true) := h
theorem f8a (h : StK P c ops rest K (putD c o (.tup []) s)) : GOp P c ops o rest K s (some false) := h
theorem e3n {b : Bool} (ht : b = true -> DoOp P c ops o rest K s (a1r s o)) (hf : b = false -> StK P c ops rest K (putD c o (.tup []) s)) : GOp P c ops o rest K s (some b) := by
 cases b
 . exact hf rfl
 . exact ht rfl
theorem c7q {b : Bool} (ht : b = false -> DoOp P c ops o rest K s (a1r s o)) (hf : b = true -> StK P c ops rest K (putD c o (.tup []) s)) : GOp P c ops o rest K s (some !b) := by
 cases b
 . exact ht rfl
 . exact hf rfl
theorem e0s {p : Prop} [Decidable p] (ht : p -> DoOp P c ops o rest K s (a1r s o)) (hf : ¬ p -> StK P c ops rest K (putD c o (.tup []) s)) : GOp P c ops o rest K s (some (decide p)) :=
 e3n (fun h => ht (of_decide_eq_true h)) (fun h => hf (of_decide_eq_false h))
theorem d5f {p : Prop} [Decidable p] (ht : ¬ p -> DoOp P c ops o rest K s (a1r s o)) (hf : p -> StK P c ops rest K (putD c o (.tup []) s)) : GOp P c ops o rest K s (some !decide p) :=
 c7q (fun h => ht (of_decide_eq_false h)) (fun h => hf (of_decide_eq_true h))
def KT (P : Program) (c : Cfg) (x : Code) (Q : Exit -> Fs -> Prop) (T : Fs -> Prop) : Prop := ∀ s, a2s P c x Q s -> T s
theorem KT.go {x : Code} {T : Fs -> Prop} (h : KT P c x Q T) (hq : a2s P c x Q s) : T s := h _ hq
def b1s (T E : Fs -> Prop) (s : Fs) (b : Option Bool) : Prop := match b with
 | some true => T s
 | some false => E s
 | none => False
theorem f4y {x : Operand} {t e : Code} (h : ∀ T E : Fs -> Prop, KT P c t Q T -> KT P c e Q E -> b1s T E s (b7s s x)) : a2s P c (.cond x t e) Q s := by
 have := h _ _ (fun _ h => h) (fun _ h => h)
 simp only [a2s]
 unfold b1s at this
 cases hc : b7s s x with
 | none => rw [hc] at this; exact this
 | some b => rw [hc] at this; cases b <;> exact this
theorem f4h {T E : Fs -> Prop} (h : T s) : b1s T E s (some true) := h
theorem f4i {T E : Fs -> Prop} (h : E s) : b1s T E s (some false) := h
theorem e4a {T E : Fs -> Prop} {b : Bool} (ht : b = true -> T s) (hf : b = false -> E s) : b1s T E s (some b) := by
 cases b
 . exact hf rfl
 . exact ht rfl
theorem e3z {T E : Fs -> Prop} {b : Bool} (ht : b = false -> T s) (hf : b = true -> E s) : b1s T E s (some !b) := by
 cases b
 . exact ht rfl
 . exact hf rfl
theorem f4j {T E : Fs -> Prop} {p : Prop} [Decidable p] (ht : p -> T s) (hf : ¬ p -> E s) : b1s T E s (some (decide p)) := e4a (fun h => ht (of_decide_eq_true h)) (fun h => hf (of_decide_eq_false h))
theorem e8n {T E : Fs -> Prop} {p : Prop} [Decidable p] (ht : ¬ p -> T s) (hf : p -> E s) : b1s T E s (some !decide p) := e3z (fun h => ht (of_decide_eq_false h)) (fun h => hf (of_decide_eq_true h))
def b7p (P : Program) (c : Cfg) (o : Oper) (s : Fs) : Option (FV × Heap) := (wv P s.H (c.nm (o.dst.getD 0) s.ix) (rv s) o).map fun x => (x.2, upds noH x.1)
def HNx (P : Program) (c : Cfg) (ops : Array Oper) (n : Nat) (K : Fs -> Prop) (H0 : Heap) (rs : List Loc) (k : Nat) (o : Oper) (rest : List Oper) (s : Fs) (As : List Heap) (x : Option (FV × Heap)) : Prop := match x, o.dst with
 | some (v, A), some d => d < c.N /\ (∀ l, A l ≠ none -> s.H l = none) /\ awH P c ops n K H0 rs (k + 1) rest ({ s with H := ext s.H A }.put d v) (As ++ [A])
 | _, _ => False
def HCl (P : Program) (c : Cfg) (ops : Array Oper) (n : Nat) (K : Fs -> Prop) (H0 : Heap) (rs : List Loc) (k : Nat) (o : Oper) (rest : List Oper) (s : Fs) (As : List Heap) (Hn : Heap) (f : FuncId) (b : Bool) (A : List FV) : Prop :=
 b = true /\ ∃ v B, (∀ H2, HSub Hn H2 -> (∀ l, B l ≠ none -> H2 l = none) -> FC P c.G f A H2 v (ext H2 B)) /\ HNx P c ops n K H0 rs k o rest s As (some (v, B))
def HDo (P : Program) (c : Cfg) (ops : Array Oper) (n : Nat) (K : Fs -> Prop) (H0 : Heap) (rs : List Loc) (k : Nat) (o : Oper) (rest : List Oper) (s : Fs) (As : List Heap) (Hn : Heap) (x : Option (FuncId × List FV)) : Prop := match x with
 | some (f, A) => HCl P c ops n K H0 rs k o rest s As Hn f (fnOk P f) A
 | none => HNx P c ops n K H0 rs k o rest s As (b7p P c o { s with H := Hn })
def HG (P : Program) (c : Cfg) (ops : Array Oper) (n : Nat) (K : Fs -> Prop) (H0 : Heap) (rs : List Loc) (k : Nat) (o : Oper) (rest : List Oper) (s : Fs) (As : List Heap) (Hn : Heap) (b : Option Bool) : Prop := match b with
 | some true => HDo P c ops n K H0 rs k o rest s As Hn (a1r s o)
 | some false => HNx P c ops n K H0 rs k o rest s As (some (.tup [], noH))
 | none => False
theorem b3d {sn : Fs} {d : Nat} {v : FV} {A : Heap} (hg : a2d ops o sn = some true) (hc : a1r sn o = none) (hd : o.dst = some d) (hN : d < c.N) (h : b7p P c o sn = some (v, A)) : Calm P c ops o sn d v A := by
 unfold b7p at h
 rw [oM_] at h
 obtain ⟨⟨us, v'⟩, hv, h⟩ := h
 simp only [Prod.mk.injEq] at h
 obtain ⟨rfl, rfl⟩ := h
 exact e8t hg hc hd hN (by rw [hd, gS_] at hv; exact hv)
theorem a1g {n k : Nat} {H0 : Heap} {rs : List Loc} {As : List Heap} (hk : k < n) (hd : b7r ops n k o = true) (h : HG P c ops n K H0 rs k o rest s As H0 (a2d ops o s)) : awH P c ops n K H0 rs k (o :: rest) s As := by
 simp only [awH, hk, if_true]
 unfold HG HDo HCl at h
 have hgs : a2d ops o { s with H := H0 } = a2d ops o s := rfl
 have hcs : a1r { s with H := H0 } o = a1r s o := rfl
 cases hg : a2d ops o s with
 | none => rw [hg] at h; exact h.elim
 | some b =>
   rw [hg] at h
   cases b
   . simp only [HNx] at h
     cases hdst : o.dst with
     | none => rw [hdst] at h; exact h.elim
     | some d =>
       rw [hdst] at h
       obtain ⟨h1, h2, h3⟩ := h
       exact ⟨d, _, noH, H0, _, (c8n (hgs.trans hg) hdst h1).two, hd, fun l hl => .inr (h2 l hl), fun _ h => h.elim, fun l ob hl => .inl hl, h3⟩
   . simp only at h
     cases hc : a1r s o with
     | none =>
       rw [hc] at h
       simp only [HNx] at h
       split at h
       . rename_i v A d hm hdst
         obtain ⟨h1, h2, h3⟩ := h
         exact ⟨d, v, A, H0, _, (b3d (hgs.trans hg) (hcs.trans hc) hdst h1 hm).two, hd, fun l hl => .inr (h2 l hl), fun _ h => h.elim, fun l ob hl => .inl hl, h3⟩
       . exact h.elim
     | some x =>
       obtain ⟨f, A⟩ := x
       rw [hc] at h
       simp only at h
       obtain ⟨hf, v, B, hfc, h⟩ := h
       simp only [HNx] at h
       cases hdst : o.dst with
       | none => rw [hdst] at h; exact h.elim
       | some d =>
         rw [hdst] at h
         obtain ⟨h1, h2, h3⟩ := h
         exact ⟨d, v, B, H0, _, (c3a (hgs.trans hg) (hcs.trans hc) hf hdst h1 hfc).two, hd, fun l hl => .inr (h2 l hl), fun _ h => h.elim, fun l ob hl => .inl hl, h3⟩
theorem a0o {n k : Nat} {H0 : Heap} {rs : List Loc} {l : List Oper} {As : List Heap} (hk : ¬ k < n) (h : wOps P c ops l K s) : awH P c ops n K H0 rs k l s As := by
 cases l with
 | nil => exact h
 | cons o rest => simp only [awH, hk, if_false]; exact h
theorem HG_t {n k : Nat} {H0 Hn : Heap} {rs : List Loc} {As : List Heap} : HG P c ops n K H0 rs k o rest s As Hn (some true) = HDo P c ops n K H0 rs k o rest s As Hn (a1r s o) := rfl
theorem HG_f {n k : Nat} {H0 Hn : Heap} {rs : List Loc} {As : List Heap} : HG P c ops n K H0 rs k o rest s As Hn (some false) = HNx P c ops n K H0 rs k o rest s As (some (.tup [], noH)) := rfl
theorem e2m {n k : Nat} {H0 Hn : Heap} {rs : List Loc} {As : List Heap} : HDo P c ops n K H0 rs k o rest s As Hn none = HNx P c ops n K H0 rs k o rest s As (b7p P c o { s with H := Hn }) := rfl
theorem e2n {n k : Nat} {H0 Hn : Heap} {rs : List Loc} {As : List Heap} {f : FuncId} {A : List FV} : HDo P c ops n K H0 rs k o rest s As Hn (some (f, A)) = HCl P c ops n K H0 rs k o rest s As Hn f (fnOk P f) A := rfl
theorem hpc {n k : Nat} {H0 Hn : Heap} {rs : List Loc} {As : List Heap} {f : FuncId} {A : List FV} {r : FV} (hp : PC P c.G f A r) (ha : nls A = true) (h : HNx P c ops n K H0 rs k o rest s As (some (r, noH))) : HCl P c ops n K H0 rs k o rest s As Hn f true A :=
 ⟨rfl, r, noH, fun H2 _ _ => hp.lift ha H2, h⟩
theorem c7z {H H2 : Heap} (hs : HSub H H2) : ∀ n, (∀ x y, frz H n x = some y -> frz H2 n x = some y) /\ (∀ x y, frzs H n x = some y -> frzs H2 n x = some y) /\ (∀ x y, frzR H n x = some y -> frzR H2 n x = some y)
 | 0 => ⟨fun _ _ h => by simp [frz] at h, fun _ _ h => by simp [frzs] at h, fun _ _ h => by simp [frzR] at h⟩
 | n + 1 => by
   obtain ⟨i1, i2, i3⟩ := c7z hs n
   refine ⟨fun x y h => ?_, fun x y h => ?_, fun x y h => ?_⟩
   . cases x with
     | sl l sz off len =>
       simp only [frz] at h ⊢
       split at h
       . rename_i T sz' xs hl
         simp only [hs _ _ hl]
         split at h
         . rename_i hc
           rw [if_pos hc]
           rw [oM_] at h ⊢
           obtain ⟨ys, hys, rfl⟩ := h
           exact ⟨ys, i3 _ _ hys, rfl⟩
         . cases h
       . cases h
     | agg cs =>
       simp only [frz] at h ⊢
       split at h
       . rename_i hc; rw [if_pos hc]; exact h
       . rename_i hc
         rw [if_neg hc]
         rw [oM_] at h ⊢
         obtain ⟨ys, hys, rfl⟩ := h
         exact ⟨ys, i2 _ _ hys, rfl⟩
     | tup cs =>
       simp only [frz] at h ⊢
       split at h
       . rename_i hc; rw [if_pos hc]; exact h
       . rename_i hc
         rw [if_neg hc]
         rw [oM_] at h ⊢
         obtain ⟨ys, hys, rfl⟩ := h
         exact ⟨ys, i2 _ _ hys, rfl⟩
     | _ => exact h
   . cases x with
     | nil => exact h
     | cons x xs =>
       simp only [frzs] at h ⊢
       rw [Option.bind_eq_some_iff] at h ⊢
       obtain ⟨z, hz, h⟩ := h
       rw [oM_] at h
       obtain ⟨ys, hys, rfl⟩ := h
       exact ⟨z, i1 _ _ hz, by rw [oM_]; exact ⟨ys, i2 _ _ hys, rfl⟩⟩
   . simp only [frzR] at h ⊢
     split at h
     . rename_i hc; rw [if_pos hc]; exact h
     . rename_i hc
       rw [if_neg hc]
       cases x with
       | nil => exact h
       | cons x xs =>
         simp only at h ⊢
         rw [Option.bind_eq_some_iff] at h ⊢
         obtain ⟨z, hz, h⟩ := h
         rw [oM_] at h
         obtain ⟨ys, hys, rfl⟩ := h
         exact ⟨z, i2 _ _ hz, by rw [oM_]; exact ⟨ys, i3 _ _ hys, rfl⟩⟩
theorem f3b {n k : Nat} {H0 Hn : Heap} {rs : List Loc} {As : List Heap} {f : FuncId} {A A1 A2 : List FV} {r : FV} (q : Nat) (hp : PC P c.G f A2 r) (hz : frzs Hn q A = some A1) (ha : asRs A1 A2) (hs : sca r = true) (h : HNx P c ops n K H0 rs k o rest s As (some (r, noH))) :
 HCl P c ops n K H0 rs k o rest s As Hn f true A := ⟨rfl, r, noH, fun H2 h1 _ => hp.lend ((c7z h1 q).2.1 _ _ hz) ha hs, h⟩
theorem a0j {n k : Nat} {H0 : Heap} {rs : List Loc} {As : List Heap} {v : FV} {A : Heap} {d : Nat} (hd : o.dst = some d) (hN : d < c.N) (hf : ∀ l, A l ≠ none -> s.H l = none) (h : awH P c ops n K H0 rs (k + 1) rest ({ s with H := ext s.H A }.put d v) (As ++ [A])) :
 HNx P c ops n K H0 rs k o rest s As (some (v, A)) := by
 simp only [HNx, hd]; exact ⟨hN, hf, h⟩
theorem a0i : ∀ l, noH l ≠ none -> s.H l = none := fun _ h => absurd rfl h
theorem a0h {l0 : Loc} {ob : FO} (h : s.H l0 = none) : ∀ l, upd noH l0 ob l ≠ none -> s.H l = none := fun l hl => by
 unfold upd at hl
 split at hl
 . rename_i e; subst e; exact h
 . exact absurd rfl hl
theorem d4x {n k : Nat} {H0 Hn : Heap} {rs : List Loc} {As : List Heap} {b : Bool} (ht : b = true -> HDo P c ops n K H0 rs k o rest s As Hn (a1r s o)) (hf : b = false -> HNx P c ops n K H0 rs k o rest s As (some (.tup [], noH))) : HG P c ops n K H0 rs k o rest s As Hn (some b) := by
 cases b
 . exact hf rfl
 . exact ht rfl
theorem c2r {n k : Nat} {H0 Hn : Heap} {rs : List Loc} {As : List Heap} {b : Bool} (ht : b = false -> HDo P c ops n K H0 rs k o rest s As Hn (a1r s o)) (hf : b = true -> HNx P c ops n K H0 rs k o rest s As (some (.tup [], noH))) : HG P c ops n K H0 rs k o rest s As Hn (some !b) := by
 cases b
 . exact ht rfl
 . exact hf rfl
theorem d4w {n k : Nat} {H0 Hn : Heap} {rs : List Loc} {As : List Heap} {p : Prop} [Decidable p] (ht : p -> HDo P c ops n K H0 rs k o rest s As Hn (a1r s o)) (hf : ¬ p -> HNx P c ops n K H0 rs k o rest s As (some (.tup [], noH))) : HG P c ops n K H0 rs k o rest s As Hn (some (decide p)) :=
 d4x (fun h => ht (of_decide_eq_true h)) (fun h => hf (of_decide_eq_false h))
theorem d0c {n k : Nat} {H0 Hn : Heap} {rs : List Loc} {As : List Heap} {p : Prop} [Decidable p] (ht : ¬ p -> HDo P c ops n K H0 rs k o rest s As Hn (a1r s o)) (hf : p -> HNx P c ops n K H0 rs k o rest s As (some (.tup [], noH))) : HG P c ops n K H0 rs k o rest s As Hn (some !decide p) :=
 c2r (fun h => ht (of_decide_eq_false h)) (fun h => hf (of_decide_eq_true h))
def b6l (H : Heap) : Option (List FV) -> Option FV
 | some l => frz H 8 (a3n l)
 | none => none
theorem b5a (H : Heap) (l : List FV) : b6l H (some l) = frz H 8 (a3n l) := rfl
def PFin (x : Option FV) (r : FV) : Prop := match x with
 | some y => asR y r
 | none => False
theorem c9a {y r : FV} : PFin (some y) r = asR y r := rfl
theorem d3j {res : List ResultVar} {r : FV} {e : Exit} (he : e = .normal \/ e = .ret) (h : PFin (b6l s.H (resL P s res)) r) : PEnd P res r e s := by
 unfold PFin at h
 split at h
 . rename_i y hy
   unfold b6l at hy
   split at hy
   . rename_i l hl
     exact ⟨he, s, Wk.refl s, l, hl, 8, y, hy, h⟩
   . cases hy
 . exact h.elim
theorem f1y {res : List ResultVar} {r : FV} (h : PFin (b6l s.H (resL P s res)) r) : PEnd P res r .ret s := d3j (.inr rfl) h
theorem f1z {res : List ResultVar} {r : FV} (h : PFin (b6l s.H (resL P s res)) r) : PEnd P res r .normal s := d3j (.inl rfl) h
theorem a8v {G : List (Nat × List Value)} {f : FuncId} {fn : Func} {code : Code} {res : List ResultVar} (nv n : Nat) (keep : List Nat) (nm : Nat -> List Nat -> Loc) {args : List FV} {r : FV} (hf : P.funcs[f]? = some fn) (hb : fn.body = some code) (hn : fn.ntmps = n) (hres : fn.results.toList = res)
 (hargs : args.length <= nv) (hnv : nv <= n) (h : a2s P ⟨n, keep, nm, G, fun _ => False⟩ code (PEnd P res r) (Fs.init nv args noH)) : PC P G f args r := by
 subst hn hres
 exact f9v hf hb rfl hargs hnv h
theorem HLe.refl (H : Heap) : HLe H H := fun _ => .inl rfl
end
end Go.FM
namespace Go.FM
open Go Go.RowKit
mutual
def nf : FV -> Bool
 | .undef | .int .. | .bool _ | .str _ | .nilp | .nils | .nilm | .nilf | .emp => true
 | .agg cs => nfs cs
 | .tup cs => nfs cs
 | .list .. | .ref _ | .ptr .. | .sl .. | .mp _ | .clo .. => false
def nfs : List FV -> Bool
 | [] => true
 | x :: xs => nf x && nfs xs
end
section
variable {P : Program} {G : List (Nat × List Value)} {f : FuncId} {w w' : World} {F F' : Nat -> Prop} {U U' : Loc -> Prop} {m m' : Loc -> Nat × Nat} {H : Heap}
def frzN (H : Heap) : FV -> Option FV
 | .sl l sz off len => match H l with
   | some (.cells _ sz' xs) => if decide (sz' = sz) && (decide (off + len <= xs.length) && nfs ((xs.drop off).take len).flatten) then some (.list sz ((xs.drop off).take len)) else none
   | _ => none
 | v => if nf v then some v else none
def PCn (P : Program) (G : List (Nat × List Value)) (f : FuncId) (args : List FV) (r : FV) : Prop :=
 ∀ (w : World) (F : Nat -> Prop) (m : Loc -> Nat × Nat) (vs : List Value), (∀ y, F y -> y < w.heap.size) -> a6s G F w -> RFs w F (fun _ => False) m args vs ->
   Calls P f vs.toArray w fun e w' => ∃ (v : Value) (F' : Nat -> Prop), e = .returned v /\ (∀ y, F' y -> w.heap.size <= y /\ y < w'.heap.size) /\ RF w' F' (fun _ => False) m r v /\ Below w.heap.size w w'
def NEnd (P : Program) (res : List ResultVar) (r : FV) (e : Exit) (s : Fs) : Prop :=
 (e = .normal \/ e = .ret) /\ ∃ s1, Wk s1 s /\ ∃ l, resL P s1 res = some l /\ ∃ y, frzN s1.H (a3n l) = some y /\ asR y r
theorem PCn.pc {args : List FV} {r : FV} (h : PCn P G f args r) : PC P G f args r := by
 intro w F m vs hF hG hv hH
 refine (h w F m vs hF hG (hv.keep (fun _ h => h) (fun _ _ => rfl) (fun _ h => absurd rfl h) (fun _ h => absurd rfl h))).mono ?_
 rintro e w' ⟨v, F', rfl, h1, h2, hb⟩
 exact ⟨v, fun b => F b \/ F' b, m, rfl, fun _ h => .inl h, fun y hy => by
  rcases hy with hy | hy
  . exact ⟨.inl hy, Nat.lt_of_lt_of_le (hF y hy) hb.size⟩
  . exact ⟨.inr (h1 y hy).1, (h1 y hy).2⟩, fun l hl => absurd rfl hl, h2.keep (fun _ h => .inr h) (fun _ _ => rfl) (fun _ h => h.elim) (fun _ h => h.elim), a9y _ _ _, fun l ⟨_, h, _⟩ => (by cases h), hb.size, fun y hy _ => hb.block y hy, hb.os, hb.tape, hb.output⟩
theorem PCn.lend {args args1 args2 : List FV} {r : FV} {n : Nat} (hz : frzs H n args = some args1) (ha : asRs args1 args2) (h : PCn P G f args2 r) : FC P G f args H r H := by
 intro w F m vs hF hG hv hH
 obtain ⟨g1, _⟩ := (c7y (m' := m) hH n).2.1 _ _ _ hz hv
 refine (h w (frzF F H m) m vs (fun y hy => ?_) (hG.mono fun _ _ h => .inl h) (g1.asR ha)).mono ?_
 . rcases hy with hy | ⟨l, hl, rfl⟩
   . exact hF y hy
   . exact (hH.old l hl).1
 . rintro e w' ⟨v, F', rfl, h1, h2, hb⟩
   have hR := hH.below hF hb
   refine ⟨v, fun b => F b \/ F' b, m, rfl, fun _ h => .inl h, fun y hy => ?_, fun l hl => ⟨rfl, hl⟩, h2.keep (fun _ h => .inr h) (fun _ _ => rfl) (fun _ h => h.elim) (fun _ h => h.elim), ?_, fun l hl => .inl ⟨l, hl, rfl⟩, hb.size, fun y hy _ => hb.block y hy, hb.os, hb.tape, hb.output⟩
   . rcases hy with hy | hy
     . exact ⟨.inl hy, Nat.lt_of_lt_of_le (hF y hy) hb.size⟩
     . exact ⟨.inr (h1 y hy).1, (h1 y hy).2⟩
   . refine ⟨fun l o ho => (hR.obj l o ho).keep (fun _ h => .inl h) (fun _ _ => rfl) (fun _ h => h) (fun _ _ => rfl) rfl (fun _ _ => rfl), hR.inj, fun l hl => ⟨(hR.old l hl).1, fun hF' => ?_⟩⟩
     rcases hF' with hF' | hF'
     . exact (hR.old l hl).2 hF'
     . have := (h1 _ hF').1
       have := (hH.old l hl).1
       omega
end
section
variable {P : Program} {c : Cfg} {Q : Exit -> Fs -> Prop} {s : Fs} {K : Fs -> Prop} {ops : Array Oper} {o : Oper} {rest : List Oper}
theorem a1a {b : Code} (h : a2s P c (.loop b) Q s) : a2s P c (.loop b) Q s := h
theorem a0q {σ : Type} {st : σ -> Fs} {μ : σ -> Nat} {x : σ} (h : c1g c st μ x Q .normal s) : c1g c st μ x Q .normal s := h
def b1p (H : Heap) : Option (List FV) -> Option FV
 | some l => frzN H (a3n l)
 | none => none
theorem b2o (H : Heap) (l : List FV) : b1p H (some l) = frzN H (a3n l) := rfl
theorem d3s {res : List ResultVar} {r : FV} {e : Exit} (he : e = .normal \/ e = .ret) (h : PFin (b1p s.H (resL P s res)) r) : NEnd P res r e s := by
 unfold PFin at h
 split at h
 . rename_i y hy
   unfold b1p at hy
   split at hy
   . rename_i l hl
     exact ⟨he, s, Wk.refl s, l, hl, y, hy, h⟩
   . cases hy
 . exact h.elim
theorem f2e {res : List ResultVar} {r : FV} (h : PFin (b1p s.H (resL P s res)) r) : NEnd P res r .ret s := d3s (.inr rfl) h
theorem f2f {res : List ResultVar} {r : FV} (h : PFin (b1p s.H (resL P s res)) r) : NEnd P res r .normal s := d3s (.inl rfl) h
end
end Go.FM
namespace Go.FM
open Go
mutual
def ren (β : Loc -> Option Loc) : FV -> FV
 | .ptr l sz i off => match β l with
   | some k => .ptr k sz i off
   | none => .undef
 | .sl l sz off len => match β l with
   | some k => .sl k sz off len
   | none => .nils
 | .mp l => match β l with
   | some k => .mp k
   | none => .undef
 | .agg cs => .agg (rens β cs)
 | .tup cs => .tup (rens β cs)
 | .clo f a b => .clo f (rens β a) (rens β b)
 | v => v
def rens (β : Loc -> Option Loc) : List FV -> List FV
 | [] => []
 | v :: vs => ren β v :: rens β vs
end
mutual
def inn (β : Loc -> Option Loc) (U : Loc -> Prop) : FV -> Prop
 | .ptr l _ _ _ => U l /\ (β l).isSome = true
 | .sl l _ _ len => U l /\ ((β l).isSome = true \/ len = 0)
 | .mp l => U l /\ (β l).isSome = true
 | .agg cs => inns β U cs
 | .tup cs => inns β U cs
 | .clo _ a b => inns β U a /\ inns β U b
 | .list _ xs => nlss xs = true
 | .ref cs => nls cs = true
 | _ => True
def inns (β : Loc -> Option Loc) (U : Loc -> Prop) : List FV -> Prop
 | [] => True
 | v :: vs => inn β U v /\ inns β U vs
end
section
variable {w : World} {F : Nat -> Prop} {U U' : Loc -> Prop} {m m' : Loc -> Nat × Nat} {β : Loc -> Option Loc}
mutual
theorem RF.ren {a : FV} {v : Value} (h : RF w F U m (ren β a) v) (ha : inn β U' a) (hm : ∀ l, U' l -> m' l = match β l with | some k => m k | none => (0, 0)) : RF w F U' m' a v := by
 match a with
 | .ptr l sz i off =>
   simp only [inn, Option.isSome_iff_exists] at ha
   obtain ⟨hu, k, hk⟩ := ha
   have h1 := hm l hu
   simp only [hk] at h1
   simp only [FM.ren, hk] at h
   cases h with
   | ptr _ _ _ _ hu' => rw [<- h1]; exact .ptr l sz i off hu
 | .sl l sz off len =>
   simp only [inn, Option.isSome_iff_exists] at ha
   obtain ⟨hu, ha⟩ := ha
   have h1 := hm l hu
   cases hk : β l with
   | none =>
     rw [hk] at ha
     have h0 : len = 0 := by
      rcases ha with ⟨k, h⟩ | h
      . cases h
      . exact h
     subst h0
     simp only [hk] at h1
     simp only [FM.ren, hk] at h
     cases h with
     | nils => exact .sl0 l sz off none hu (by rw [h1])
   | some k =>
     simp only [hk] at h1
     simp only [FM.ren, hk] at h
     cases h with
     | sl _ _ _ _ cap o hu' hc ho hs => rw [<- h1] at hs ⊢; exact .sl l sz off len cap o hu hc ho hs
     | sl0 _ _ _ A hu' h0 => exact .sl0 l sz off A hu (by rw [h1]; exact h0)
 | .mp l =>
   simp only [inn, Option.isSome_iff_exists] at ha
   obtain ⟨hu, k, hk⟩ := ha
   have h1 := hm l hu
   simp only [hk] at h1
   simp only [FM.ren, hk] at h
   cases h with
   | mp _ hu' => rw [<- h1]; exact .mp l hu
 | .agg cs =>
   simp only [FM.ren] at h
   cases h with
   | agg _ vs h => exact .agg cs vs (RFs.ren h ha hm)
 | .tup cs =>
   simp only [FM.ren] at h
   cases h with
   | tup _ vs h => exact .tup cs vs (RFs.ren h ha hm)
 | .clo f x y =>
   simp only [FM.ren] at h
   cases h with
   | clo _ _ _ us vs h1 h2 => exact .clo f x y us vs (RFs.ren h1 ha.1 hm) (RFs.ren h2 ha.2 hm)
 | .list sz xs => simp only [FM.ren] at h; exact h.nameless (by simpa [nl, inn] using ha) _ _
 | .ref cs => simp only [FM.ren] at h; exact h.nameless (by simpa [nl, inn] using ha) _ _
 | .undef => exact h.nameless rfl _ _
 | .int .. => exact h.nameless rfl _ _
 | .bool _ => exact h.nameless rfl _ _
 | .str _ => exact h.nameless rfl _ _
 | .nilp => exact h.nameless rfl _ _
 | .nils => exact h.nameless rfl _ _
 | .nilm => exact h.nameless rfl _ _
 | .nilf => exact h.nameless rfl _ _
 | .emp => exact h.nameless rfl _ _
theorem RFs.ren {as : List FV} {vs : List Value} (h : RFs w F U m (rens β as) vs) (ha : inns β U' as) (hm : ∀ l, U' l -> m' l = match β l with | some k => m k | none => (0, 0)) : RFs w F U' m' as vs := by
 match as with
 | [] => simp only [rens] at h; cases h; exact .nil
 | a :: as =>
   simp only [rens] at h
   cases h with
   | cons _ v _ vs h hs => exact .cons a v as vs (RF.ren h ha.1 hm) (RFs.ren hs ha.2 hm)
end
def renss (β : Loc -> Option Loc) : List (List FV) -> List (List FV)
 | [] => []
 | v :: vs => rens β v :: renss β vs
def a6v (β : Loc -> Option Loc) (U : Loc -> Prop) : List (List FV) -> Prop
 | [] => True
 | v :: vs => inns β U v /\ a6v β U vs
def rene (β : Loc -> Option Loc) : List (FV × FV × Nat) -> List (FV × FV × Nat)
 | [] => []
 | (k, v, n) :: es => (ren β k, ren β v, n) :: rene β es
def inne (β : Loc -> Option Loc) (U : Loc -> Prop) : List (FV × FV × Nat) -> Prop
 | [] => True
 | (k, v, _) :: es => (inn β U k /\ inn β U v) /\ inne β U es
def renO (β : Loc -> Option Loc) : FO -> FO
 | .cells T sz xs => .cells T sz (renss β xs)
 | .map es clk => .map (rene β es) clk
 | .iter x a b c => .iter (ren β x) a b c
 | .dead => .dead
def innO (β : Loc -> Option Loc) (U : Loc -> Prop) : FO -> Prop
 | .cells _ _ xs => a6v β U xs
 | .map es _ => inne β U es
 | .iter x _ _ _ => inn β U x
 | .dead => True
theorem c3v (as : List FV) : (rens β as).length = as.length := by
 induction as with
 | nil => rfl
 | cons a as ih => simp [rens, ih]
theorem b3v (xs : List (List FV)) : (renss β xs).length = xs.length := by
 induction xs with
 | nil => rfl
 | cons a as ih => simp [renss, ih]
theorem d2t {sz : Nat} {xs : List (List FV)} (h : ∀ x ∈ renss β xs, x.length = sz) : ∀ x ∈ xs, x.length = sz := by
 induction xs with
 | nil => intro x hx; cases hx
 | cons a as ih =>
   simp only [renss, List.mem_cons, forall_eq_or_imp, c3v] at h ⊢
   exact ⟨h.1, ih h.2⟩
theorem RFs.renss {xs : List (List FV)} {vs : List Value} (h : RFs w F U m (renss β xs).flatten vs) (ha : a6v β U' xs) (hm : ∀ l, U' l -> m' l = match β l with | some k => m k | none => (0, 0)) : RFs w F U' m' xs.flatten vs := by
 induction xs generalizing vs with
 | nil => simp only [FM.renss, List.flatten_nil] at h ⊢; cases h; exact .nil
 | cons a as ih =>
   simp only [FM.renss, List.flatten_cons] at h ⊢
   obtain ⟨v1, v2, rfl, h1, h2⟩ := RFs.part _ _ h
   exact (h1.ren ha.1 hm).append (ih h2 ha.2)
theorem REs.rene {es : List (FV × FV × Nat)} {xs : List MapEntry} (h : REs w F U m (rene β es) xs) (ha : inne β U' es) (hm : ∀ l, U' l -> m' l = match β l with | some k => m k | none => (0, 0)) : REs w F U' m' es xs := by
 induction es generalizing xs with
 | nil => simp only [FM.rene] at h; cases h; exact .nil
 | cons e es ih =>
   obtain ⟨k, v, n⟩ := e
   simp only [FM.rene] at h
   cases h with
   | cons _ x _ xs h hs => exact .cons _ x es xs ⟨h.key.ren ha.1.1 hm, h.val.ren ha.1.2 hm, h.born⟩ (ih hs ha.2)
mutual
theorem d2u {a : FV} (h : nl a = true) : ren β a = a := by
 match a with
 | .ptr .. => simp [nl] at h
 | .sl .. => simp [nl] at h
 | .mp .. => simp [nl] at h
 | .agg cs => simp only [nl] at h; simp only [ren, a9t h]
 | .tup cs => simp only [nl] at h; simp only [ren, a9t h]
 | .clo f x y => simp only [nl, bA_] at h; simp only [ren, a9t h.1, a9t h.2]
 | .list .. => rfl
 | .ref .. => rfl
 | .undef => rfl
 | .int .. => rfl
 | .bool _ => rfl
 | .str _ => rfl
 | .nilp => rfl
 | .nils => rfl
 | .nilm => rfl
 | .nilf => rfl
 | .emp => rfl
theorem a9t {as : List FV} (h : nls as = true) : rens β as = as := by
 match as with
 | [] => rfl
 | a :: as => simp only [nls, bA_] at h; simp only [rens, d2u h.1, a9t h.2]
end
mutual
theorem d4r {a : FV} (h : nl a = true) : inn β U a := by
 match a with
 | .ptr .. => simp [nl] at h
 | .sl .. => simp [nl] at h
 | .mp .. => simp [nl] at h
 | .agg cs => simp only [nl] at h; exact a9x h
 | .tup cs => simp only [nl] at h; exact a9x h
 | .clo f x y => simp only [nl, bA_] at h; exact ⟨a9x h.1, a9x h.2⟩
 | .list .. => simpa [nl, inn] using h
 | .ref .. => simpa [nl, inn] using h
 | .undef => trivial
 | .int .. => trivial
 | .bool _ => trivial
 | .str _ => trivial
 | .nilp => trivial
 | .nils => trivial
 | .nilm => trivial
 | .nilf => trivial
 | .emp => trivial
theorem a9x {as : List FV} (h : nls as = true) : inns β U as := by
 match as with
 | [] => trivial
 | a :: as => simp only [nls, bA_] at h; exact ⟨d4r h.1, a9x h.2⟩
end
theorem b0h {xs : List (List FV)} (h : nlss xs = true) : renss β xs = xs := by
 induction xs with
 | nil => rfl
 | cons a as ih => simp only [nlss, bA_] at h; simp only [renss, a9t h.1, ih h.2]
theorem b0o {xs : List (List FV)} (h : nlss xs = true) : a6v β U xs := by
 induction xs with
 | nil => trivial
 | cons a as ih => simp only [nlss, bA_] at h; exact ⟨a9x h.1, ih h.2⟩
theorem a4q (xs ys : List (List FV)) : nlss (xs ++ ys) = (nlss xs && nlss ys) := by
 induction xs with
 | nil => rfl
 | cons a as ih => simp [nlss, ih, Bool.and_assoc]
def nle (es : List (FV × FV × Nat)) : Bool := es.all fun e => nl e.1 && nl e.2.1
theorem d3q : nle [] = true := rfl
theorem c6x (e : FV × FV × Nat) (es : List (FV × FV × Nat)) : nle (e :: es) = ((nl e.1 && nl e.2.1) && nle es) := rfl
theorem b8g (xs ys : List (FV × FV × Nat)) : nle (xs ++ ys) = (nle xs && nle ys) := by simp [nle]
theorem a7j {es : List (FV × FV × Nat)} (h : nle es = true) : rene β es = es := by
 induction es with
 | nil => rfl
 | cons e es ih =>
   obtain ⟨k, v, n⟩ := e
   simp only [nle, List.all_cons, bA_] at h
   simp only [rene, d2u h.1.1, d2u h.1.2, ih h.2]
theorem a7k {es : List (FV × FV × Nat)} (h : nle es = true) : inne β U es := by
 induction es with
 | nil => trivial
 | cons e es ih =>
   obtain ⟨k, v, n⟩ := e
   simp only [nle, List.all_cons, bA_] at h
   exact ⟨⟨d4r h.1.1, d4r h.1.2⟩, ih h.2⟩
end
section
variable {X : Ctx} {c : Cfg} {w : World} {F : Nat -> Prop} {m : Loc -> Nat × Nat} {s s1 : Fs} {a : Act}
theorem e3o (β : Loc -> Option Loc) (hv : s1.vars.length = s.vars.length) (ht : ∀ t, s1.get t = .undef \/ (ren β (s1.get t) = s.get t /\ inn β (fun l => s1.H l ≠ none) (s1.get t)))
 (hH : ∀ l o, s1.H l = some o -> o = .dead \/ (∃ k, β l = some k /\ s.H k = some (renO β o) /\ innO β (fun l => s1.H l ≠ none) o) \/ (β l = none /\ ∃ T sz, o = .cells T sz []))
 (hinj : ∀ l l' k, s1.H l ≠ none -> s1.H l' ≠ none -> β l = some k -> β l' = some k -> l = l')
 (hL : ∀ l, c.L l -> s.H l ≠ none -> s1.H l ≠ none /\ β l = some l) : Gk c s1 s := by
 rintro X a w ⟨hN, F, m, h1, h2, h⟩
 let m' : Loc -> Nat × Nat := fun l => match β l with | some k => m k | none => (0, 0)
 have hm : ∀ l, s1.H l ≠ none -> m' l = match β l with | some k => m k | none => (0, 0) := fun _ _ => rfl
 have hlive : ∀ l, Live s1.H m' l -> ∃ k, β l = some k /\ m' l = m k /\ Live s.H m k := fun l ⟨o, g1, g2, g3⟩ => by
  rcases hH l o g1 with rfl | ⟨k, k1, k2, k3⟩ | ⟨k1, _⟩
  . exact absurd rfl g2
  . have e : m' l = m k := by simp only [m', k1]
    refine ⟨k, k1, e, _, k2, ?_, e ▸ g3⟩
    cases o <;> simp [renO] at g2 ⊢
  . exact absurd (by simp only [m', k1]) g3
 refine ⟨hN, F, m', h1, h2, ?_⟩
 refine { df := h.df, vsz := by rw [hv]; exact h.vsz, val := fun t => ?_, heap := ⟨fun l o ho => ?_, fun k k' hk hk' e => ?_, fun k hk => ?_⟩, own := fun l hl => ?_,
          ext := fun l hl => (hL l (h1.hd l hl) (h.ext l hl)).1, mfix := fun l hl => ?_, frz := h.frz, keep := h.keep, size := h.size, os := h.os, tape := h.tape, output := h.output }
 . rcases ht t with e | ⟨e1, e2⟩
   . rw [e]; exact .undef _
   . exact RF.ren (by rw [e1]; exact h.val t) e2 hm
 . rcases hH l o ho with rfl | ⟨k, k1, k2, k3⟩ | ⟨k1, T, sz, rfl⟩
   . trivial
   . have hob := h.heap.obj k _ k2
     have e : m' l = m k := by simp only [m', k1]
     cases o with
     | cells T sz xs =>
       simp only [renO, OR] at hob ⊢
       rw [e]
       rcases hob with ⟨b1, b2⟩ | ⟨b0, cc, b1, b2, b3, b4, b5⟩
       . left
         refine ⟨?_, b2⟩
         have := b3v (β := β) xs
         rw [b1] at this
         exact eN_ this.symm
       . right
         rw [b3v] at b4 b5
         exact ⟨b0, cc, b1, b2, d2t b3, b4, b5.renss k3 hm⟩
     | map es clk =>
       simp only [renO, OR] at hob ⊢
       rw [e]
       obtain ⟨b0, aa, b1, b2⟩ := hob
       exact ⟨b0, aa, b1, b2.rene k3 hm⟩
     | iter x q r t =>
       simp only [renO, OR] at hob ⊢
       rw [e]
       obtain ⟨b0, aa, b1, b2⟩ := hob
       exact ⟨b0, aa, b1.ren k3 hm, b2⟩
     | dead => trivial
   . left; exact ⟨rfl, by simp only [m', k1]⟩
 . obtain ⟨q, q1, q2, q3⟩ := hlive k hk
   obtain ⟨q', q1', q2', q3'⟩ := hlive k' hk'
   have e2 : q = q' := h.heap.inj q q' q3 q3' (by rw [<- q2, <- q2']; exact e)
   subst e2
   obtain ⟨o, g1, _⟩ := hk
   obtain ⟨o', g1', _⟩ := hk'
   exact hinj k k' q (by simp [g1]) (by simp [g1']) q1 q1'
 . obtain ⟨q, q1, q2, q3⟩ := hlive k hk
   rw [q2]; exact h.heap.old q q3
 . obtain ⟨q, q1, q2, q3⟩ := hlive l hl
   rw [q2]; exact h.own q q3
 . obtain ⟨_, e⟩ := hL l (h1.hd l hl) (h.ext l hl)
   show (match β l with | some k => m k | none => (0, 0)) = _
   rw [e]; exact h.mfix l hl
end
def hpL : List (Loc × FO) -> Heap
 | [] => noH
 | (l, o) :: r => upd (hpL r) l o
theorem a4w (l : Loc) (o : FO) (r : List (Loc × FO)) (k : Loc) : hpL ((l, o) :: r) k = if k = l then some o else hpL r k := rfl
theorem a3l (k : Loc) : hpL [] k = none := rfl
def bk : List (Loc × Option Loc) -> Loc -> Option Loc
 | [], l => some l
 | (k, o) :: r, l => if l = k then o else bk r l
def simV (β : Loc -> Option Loc) (U : Loc -> Prop) (v1 v : FV) : Prop := v1 = .undef \/ (ren β v1 = v /\ inn β U v1)
def a9d (β : Loc -> Option Loc) (U : Loc -> Prop) : List FV -> List FV -> Prop
 | v1 :: r1, v :: r => simV β U v1 v /\ a9d β U r1 r
 | [], [] => True
 | _, _ => False
def simT (β : Loc -> Option Loc) (U : Loc -> Prop) (n : Nat) (tm : Asg) : Asg -> Prop
 | [] => True
 | (t, v) :: r => (n <= t /\ simV β U v (lk tm t)) /\ simT β U n tm r
def simO (β : Loc -> Option Loc) (U : Loc -> Prop) (H : Heap) (l : Loc) (o : FO) : Prop := match β l with
 | some k => H k = some (renO β o) /\ innO β U o
 | none => match o with
   | .cells _ _ [] => True
   | _ => False
def simH (β : Loc -> Option Loc) (U : Loc -> Prop) (H : Heap) : List (Loc × FO) -> Prop
 | [] => True
 | (l, o) :: r => simO β U H l o /\ simH β U H r
def injB (β : Loc -> Option Loc) : List Loc -> Bool
 | [] => true
 | l :: r => (match β l with | some k => r.all fun l' => l' == l || !(β l' == some k) | none => true) && injB β r
theorem b6h : ∀ (L : List (Loc × FO)) (l : Loc) (o : FO), hpL L l = some o -> (l, o) ∈ L
 | [], l, o, h => by cases h
 | (k, x) :: r, l, o, h => by
   simp only [hpL, upd] at h
   split at h
   . rename_i e; subst e; obtain rfl := sI_ h; exact List.mem_cons_self
   . exact List.mem_cons_of_mem _ (b6h r l o h)
theorem b9l {β : Loc -> Option Loc} {U : Loc -> Prop} {H : Heap} : ∀ {L : List (Loc × FO)}, simH β U H L -> ∀ p ∈ L, simO β U H p.1 p.2
 | [], _, p, hp => by cases hp
 | (k, x) :: r, h, p, hp => by
   rcases List.mem_cons.1 hp with rfl | hp
   . exact h.1
   . exact b9l h.2 p hp
theorem c0i {β : Loc -> Option Loc} : ∀ {L : List Loc}, injB β L = true -> ∀ l ∈ L, ∀ l' ∈ L, ∀ k, β l = some k -> β l' = some k -> l = l'
 | [], _, l, hl, _, _, _, _, _ => by cases hl
 | a :: r, h, l, hl, l', hl', k, e, e' => by
   simp only [injB, bA_] at h
   obtain ⟨h1, h2⟩ := h
   have key : ∀ x ∈ r, β a = some k -> β x = some k -> x = a := fun x hx ea ex => by
    rw [ea] at h1
    have := List.all_eq_true.1 h1 x hx
    simp only [Bool.or_eq_true, beq_iff_eq, Bool.not_eq_true', ex] at this
    rcases this with h | h
    . exact h
    . simp at h
   rcases List.mem_cons.1 hl with rfl | hl1
   . rcases List.mem_cons.1 hl' with rfl | hl2
     . rfl
     . exact (key l' hl2 e e').symm
   . rcases List.mem_cons.1 hl' with rfl | hl2
     . exact key l hl1 e' e
     . exact c0i h2 l hl1 l' hl2 k e e'
theorem b5n {β : Loc -> Option Loc} {U : Loc -> Prop} : ∀ {l1 l : List FV}, a9d β U l1 l -> l1.length = l.length /\ ∀ t, t < l.length -> simV β U (l1.getD t .undef) (l.getD t .undef)
 | [], [], _ => ⟨rfl, fun t h => by cases h⟩
 | [], _ :: _, h => h.elim
 | _ :: _, [], h => h.elim
 | v1 :: r1, v :: r, h => by
   obtain ⟨g1, g2⟩ := b5n h.2
   refine ⟨by simp [g1], fun t ht => ?_⟩
   cases t with
   | zero => simpa using h.1
   | succ t => simpa using g2 t (by simpa using ht)
theorem b9k {β : Loc -> Option Loc} {U : Loc -> Prop} {n : Nat} {tm : Asg} : ∀ {l : Asg}, simT β U n tm l -> ∀ t, lk l t = .undef \/ (n <= t /\ simV β U (lk l t) (lk tm t))
 | [], _, t => .inl rfl
 | (k, v) :: r, h, t => by
   simp only [lk]
   split
   . rename_i e; subst e; exact .inr h.1
   . exact b9k h.2 t
theorem a3m {c : Cfg} {vs1 vs : List FV} {tm1 tm : Asg} {L : List (Loc × FO)} {H : Heap} {ix1 ix : List Nat} (b : List (Loc × Option Loc)) (hc : ∀ l, ¬ c.L l) (hinj : injB (bk b) (L.map Prod.fst) = true) (hv : a9d (bk b) (fun l => hpL L l ≠ none) vs1 vs)
 (ht : simT (bk b) (fun l => hpL L l ≠ none) vs.length tm tm1) (hH : simH (bk b) (fun l => hpL L l ≠ none) H L) : Gk c (Fs.mk vs1 tm1 (hpL L) ix1) ⟨vs, tm, H, ix⟩ := by
 obtain ⟨g1, g2⟩ := b5n hv
 have hdom : ∀ l, hpL L l ≠ none -> l ∈ L.map Prod.fst := fun l hl => by
  cases h : hpL L l with
  | none => exact absurd h hl
  | some o => exact List.mem_map.2 ⟨_, b6h L l o h, rfl⟩
 refine e3o (bk b) g1 (fun t => ?_) (fun l o ho => ?_) (fun l l' k h1 h2 => c0i hinj l (hdom l h1) l' (hdom l' h2) k) (fun l hl => absurd hl (hc l))
 . simp only [Fs.get]
   rw [g1]
   split
   . rename_i hlt
     exact g2 t hlt
   . rcases b9k ht t with h | h
     . exact .inl h
     . exact h.2
 . have h1 := b9l hH _ (b6h L l o ho)
   unfold simO at h1
   split at h1
   . rename_i k hk; exact .inr (.inl ⟨k, hk, h1.1, h1.2⟩)
   . rename_i hk
     split at h1
     . rename_i T sz e; exact .inr (.inr ⟨hk, T, sz, e⟩)
     . exact h1.elim
section
variable (l0 : Loc) (sz0 : Nat) (xs0 : List (List FV))
mutual
def fz : FV -> FV
 | .ptr l sz i off => if l = l0 then .undef else .ptr l sz i off
 | .sl l sz off len => if l = l0 then (if sz = sz0 /\ off + len <= xs0.length then .list sz0 ((xs0.drop off).take len) else .undef) else .sl l sz off len
 | .mp l => if l = l0 then .undef else .mp l
 | .agg cs => .agg (fzs cs)
 | .tup cs => .tup (fzs cs)
 | .clo f a b => .clo f (fzs a) (fzs b)
 | .list sz ys => if nlss ys = true then .list sz ys else .undef
 | .ref cs => if nls cs = true then .ref cs else .undef
 | .undef => .undef
 | .int k n => .int k n
 | .bool b => .bool b
 | .str s => .str s
 | .nilp => .nilp
 | .nils => .nils
 | .nilm => .nilm
 | .nilf => .nilf
 | .emp => .emp
def fzs : List FV -> List FV
 | [] => []
 | v :: vs => fz v :: fzs vs
end
def fzss : List (List FV) -> List (List FV)
 | [] => []
 | v :: vs => fzs l0 sz0 xs0 v :: fzss vs
def fze : List (FV × FV × Nat) -> List (FV × FV × Nat)
 | [] => []
 | (k, v, n) :: es => (fz l0 sz0 xs0 k, fz l0 sz0 xs0 v, n) :: fze es
def fzT : Asg -> Asg
 | [] => []
 | (k, v) :: r => (k, fz l0 sz0 xs0 v) :: fzT r
def fzO : FO -> FO
 | .cells T sz xs => .cells T sz (fzss l0 sz0 xs0 xs)
 | .map es clk => .map (fze l0 sz0 xs0 es) clk
 | .iter x a b c => .iter (fz l0 sz0 xs0 x) a b c
 | .dead => .dead
def fzH (H : Heap) : Heap := fun k => if k = l0 then none else (H k).map (fzO l0 sz0 xs0)
end
section
variable {l0 : Loc} {sz0 : Nat} {xs0 : List (List FV)} {w : World} {F F' : Nat -> Prop} {U U' : Loc -> Prop} {m : Loc -> Nat × Nat}
theorem a8j (vs : List FV) : (fzs l0 sz0 xs0 vs).length = vs.length := by
 induction vs with
 | nil => rfl
 | cons v vs ih => simp [fzs, ih]
theorem a8s (vs : List (List FV)) : (fzss l0 sz0 xs0 vs).length = vs.length := by
 induction vs with
 | nil => rfl
 | cons v vs ih => simp [fzss, ih]
theorem d0e (a b : List FV) : fzs l0 sz0 xs0 (a ++ b) = fzs l0 sz0 xs0 a ++ fzs l0 sz0 xs0 b := by
 induction a with
 | nil => rfl
 | cons v vs ih => simp [fzs, ih]
theorem a7n (a b : List (List FV)) : fzss l0 sz0 xs0 (a ++ b) = fzss l0 sz0 xs0 a ++ fzss l0 sz0 xs0 b := by
 induction a with
 | nil => rfl
 | cons v vs ih => simp [fzss, ih]
theorem b3w (a : List (List FV)) : (fzss l0 sz0 xs0 a).flatten = fzs l0 sz0 xs0 a.flatten := by
 induction a with
 | nil => rfl
 | cons v vs ih => simp [fzss, d0e, ih]
theorem c7v {sz : Nat} {a : List (List FV)} (h : ∀ x ∈ a, x.length = sz) : ∀ x ∈ fzss l0 sz0 xs0 a, x.length = sz := by
 induction a with
 | nil => intro x hx; cases hx
 | cons v vs ih =>
   intro x hx
   rcases List.mem_cons.1 hx with rfl | hx
   . rw [a8j]; exact h v (by simp)
   . exact ih (fun y hy => h y (by simp [hy])) x hx
mutual
theorem f8h {a : FV} (h : nl a = true) : fz l0 sz0 xs0 a = a := by
 match a with
 | .ptr .. => simp [nl] at h
 | .sl .. => simp [nl] at h
 | .mp .. => simp [nl] at h
 | .agg cs => simp only [nl] at h; simp only [fz, b1a h]
 | .tup cs => simp only [nl] at h; simp only [fz, b1a h]
 | .clo f x y => simp only [nl, bA_] at h; simp only [fz, b1a h.1, b1a h.2]
 | .list .. => simp only [nl] at h; simp [fz, h]
 | .ref .. => simp only [nl] at h; simp [fz, h]
 | .undef => rfl
 | .int .. => rfl
 | .bool _ => rfl
 | .str _ => rfl
 | .nilp => rfl
 | .nils => rfl
 | .nilm => rfl
 | .nilf => rfl
 | .emp => rfl
theorem b1a {as : List FV} (h : nls as = true) : fzs l0 sz0 xs0 as = as := by
 match as with
 | [] => rfl
 | a :: as => simp only [nls, bA_] at h; simp only [fzs, f8h h.1, b1a h.2]
end
theorem b3f {xs : List (List FV)} (h : nlss xs = true) : fzss l0 sz0 xs0 xs = xs := by
 induction xs with
 | nil => rfl
 | cons a as ih => simp only [nlss, bA_] at h; simp only [fzss, b1a h.1, ih h.2]
structure FzB (w : World) (F' : Nat -> Prop) (m : Loc -> Nat × Nat) (l0 : Loc) (sz0 : Nat) (xs0 : List (List FV)) : Prop where
 nms : nlss xs0 = true
 obj : (xs0 = [] /\ (m l0).2 = 0) \/ ((m l0).2 ≠ 0 /\ F' (m l0).1 /\ ∃ (T : TypeId) (c : Array Value), w.heap[(m l0).1]? = some (.cells c T (0, 0)) /\ (∀ x ∈ xs0, x.length = sz0) /\
     RFs w F' (fun _ => False) m xs0.flatten (c.toList.take (xs0.length * sz0)))
mutual
theorem RF.fz {a : FV} {v : Value} (h : RF w F U m a v) (hB : FzB w F' m l0 sz0 xs0) (hF : ∀ b, F b -> F' b) (hU : ∀ l, U l -> l ≠ l0 -> U' l) : RF w F' U' m (fz l0 sz0 xs0 a) v := by
 match a with
 | .ptr l sz i off =>
   simp only [FM.fz]
   split
   . exact .undef _
   . rename_i hne
     cases h with
     | ptr _ _ _ _ hu => exact .ptr l sz i off (hU l hu hne)
 | .mp l =>
   simp only [FM.fz]
   split
   . exact .undef _
   . rename_i hne
     cases h with
     | mp _ hu => exact .mp l (hU l hu hne)
 | .sl l sz off len =>
   simp only [FM.fz]
   split
   . rename_i he
     subst he
     split
     . rename_i hc
       obtain ⟨rfl, hlen⟩ := hc
       have hcl : ((xs0.drop off).take len).length = len := by simp; omega
       rcases hB.obj with ⟨hx0, h0⟩ | ⟨h0, hF0, T, c, g1, g3, g5⟩
       . have hl0 : len = 0 := by rw [hx0] at hlen; simp at hlen; omega
         subst hl0
         rw [List.take_zero]
         cases h with
         | sl _ _ _ _ cap o hu hcap ho hs => exact .list sz [] _ cap [] (by simp) (by simp) (by simp) .nil
         | sl0 => exact .list sz [] _ 0 [] (by simp) (by simp) (by simp) .nil
       . have hpart := (g5.drop (off * sz)).take (len * sz)
         rw [<- b0a off xs0 g3, <- a9l len _ (fun x hx => g3 x (List.mem_of_mem_drop hx))] at hpart
         have k4 : ∀ x ∈ (xs0.drop off).take len, x.length = sz := fun x hx => g3 x (List.mem_of_mem_drop (List.mem_of_mem_take hx))
         have hnl : nls ((xs0.drop off).take len).flatten = true := by
          rw [<- a5q]
          have : ∀ (ys : List (List FV)), nlss ys = ys.all nls := fun ys => by
           induction ys with
           | nil => rfl
           | cons y ys ih => simp [nlss, ih]
          have hb := hB.nms
          rw [this, List.all_eq_true] at hb ⊢
          exact fun x hx => hb x (List.mem_of_mem_drop (List.mem_of_mem_take hx))
         have hp2 := hpart.nameless hnl U' m
         cases h with
         | sl _ _ _ _ cap o hu hcap ho hs =>
           have := RF.list (w := w) (F := F') (U := U') (m := m) sz _ (some ⟨(m l).1, o, none⟩) cap _ k4 (by omega) (fun hne => ?_) hp2
           . rw [hcl] at this; exact this
           . have hpos : 0 < len := by
              rcases Nat.eq_zero_or_pos len with e | e
              . exact absurd (eN_ (by omega)) hne
              . exact e
             have ho' : o = off * sz := ho.resolve_left (by omega)
             refine ⟨_, rfl, hF0, fun j u hj => ?_⟩
             rw [List.getElem?_take] at hj
             split at hj
             . rename_i hjl
               rw [List.getElem?_drop, List.getElem?_take] at hj
               split at hj
               . rw [add0, a6z g1, ho']; simpa using hj
               . cases hj
             . cases hj
         | sl0 _ _ _ _ hu h00 => exact absurd h00 h0
     . exact .undef _
   . rename_i hne
     cases h with
     | sl _ _ _ _ cap o hu hc ho hs => exact .sl l sz off len cap o (hU l hu hne) hc ho hs
     | sl0 _ _ _ A hu h0 => exact .sl0 l sz off A (hU l hu hne) h0
 | .agg cs =>
   cases h with
   | agg _ vs h => simp only [FM.fz]; exact .agg _ vs (RFs.fz h hB hF hU)
 | .tup cs =>
   cases h with
   | tup _ vs h => simp only [FM.fz]; exact .tup _ vs (RFs.fz h hB hF hU)
 | .clo f x y =>
   cases h with
   | clo _ _ _ us vs h1 h2 => simp only [FM.fz]; exact .clo f _ _ us vs (RFs.fz h1 hB hF hU) (RFs.fz h2 hB hF hU)
 | .list sz ys =>
   simp only [FM.fz]
   split
   . rename_i hn
     exact (h.keep (w' := w) (F' := F') (U' := U) (m' := m) hF (fun _ _ => rfl) (fun _ h => h) (fun _ _ => rfl)).nameless (by simpa [nl] using hn) _ _
   . exact .undef _
 | .ref cs =>
   simp only [FM.fz]
   split
   . rename_i hn
     exact (h.keep (w' := w) (F' := F') (U' := U) (m' := m) hF (fun _ _ => rfl) (fun _ h => h) (fun _ _ => rfl)).nameless (by simpa [nl] using hn) _ _
   . exact .undef _
 | .undef => exact .undef _
 | .int .. => exact (h.keep (w' := w) (F' := F') (U' := U) (m' := m) hF (fun _ _ => rfl) (fun _ h => h) (fun _ _ => rfl)).nameless rfl _ _
 | .bool _ => exact (h.keep (w' := w) (F' := F') (U' := U) (m' := m) hF (fun _ _ => rfl) (fun _ h => h) (fun _ _ => rfl)).nameless rfl _ _
 | .str _ => exact (h.keep (w' := w) (F' := F') (U' := U) (m' := m) hF (fun _ _ => rfl) (fun _ h => h) (fun _ _ => rfl)).nameless rfl _ _
 | .nilp => exact (h.keep (w' := w) (F' := F') (U' := U) (m' := m) hF (fun _ _ => rfl) (fun _ h => h) (fun _ _ => rfl)).nameless rfl _ _
 | .nils => exact (h.keep (w' := w) (F' := F') (U' := U) (m' := m) hF (fun _ _ => rfl) (fun _ h => h) (fun _ _ => rfl)).nameless rfl _ _
 | .nilm => exact (h.keep (w' := w) (F' := F') (U' := U) (m' := m) hF (fun _ _ => rfl) (fun _ h => h) (fun _ _ => rfl)).nameless rfl _ _
 | .nilf => exact (h.keep (w' := w) (F' := F') (U' := U) (m' := m) hF (fun _ _ => rfl) (fun _ h => h) (fun _ _ => rfl)).nameless rfl _ _
 | .emp => exact (h.keep (w' := w) (F' := F') (U' := U) (m' := m) hF (fun _ _ => rfl) (fun _ h => h) (fun _ _ => rfl)).nameless rfl _ _
theorem RFs.fz {as : List FV} {vs : List Value} (h : RFs w F U m as vs) (hB : FzB w F' m l0 sz0 xs0) (hF : ∀ b, F b -> F' b) (hU : ∀ l, U l -> l ≠ l0 -> U' l) : RFs w F' U' m (fzs l0 sz0 xs0 as) vs := by
 match as with
 | [] => cases h; exact .nil
 | a :: as =>
   cases h with
   | cons _ v _ vs h hs => exact .cons _ v _ vs (RF.fz h hB hF hU) (RFs.fz hs hB hF hU)
end
theorem REs.fz {es : List (FV × FV × Nat)} {as : List MapEntry} (h : REs w F U m es as) (hB : FzB w F' m l0 sz0 xs0) (hF : ∀ b, F b -> F' b) (hU : ∀ l, U l -> l ≠ l0 -> U' l) : REs w F' U' m (fze l0 sz0 xs0 es) as := by
 induction es generalizing as with
 | nil => cases h; exact .nil
 | cons e es ih =>
   cases h with
   | cons _ x _ xs h hs =>
     obtain ⟨k, v, n⟩ := e
     exact .cons _ x _ xs ⟨h.key.fz hB hF hU, h.val.fz hB hF hU, h.born⟩ (ih hs)
end
theorem e3g (l0 : Loc) (sz0 : Nat) (xs0 : List (List FV)) (tm : Asg) (t : Nat) : lk (fzT l0 sz0 xs0 tm) t = fz l0 sz0 xs0 (lk tm t) := by
 induction tm with
 | nil => rfl
 | cons e r ih =>
   obtain ⟨k, v⟩ := e
   simp only [fzT, lk]
   split
   . rfl
   . exact ih
theorem c7t (l0 : Loc) (sz0 : Nat) (xs0 : List (List FV)) (vs : List FV) (t : Nat) : (fzs l0 sz0 xs0 vs).getD t .undef = fz l0 sz0 xs0 (vs.getD t .undef) := by
 induction vs generalizing t with
 | nil => rfl
 | cons v vs ih =>
   cases t with
   | zero => rfl
   | succ t => simpa [fzs] using ih t
theorem f8b {c : Cfg} {vs : List FV} {tm : Asg} {H : Heap} {ix : List Nat} (l0 : Loc) (T0 : TypeId) (sz0 : Nat) (xs0 : List (List FV)) (hc : ∀ l, ¬ c.L l) (hl : H l0 = some (.cells T0 sz0 xs0)) (hn : nlss xs0 = true) :
 Gk c (Fs.mk (fzs l0 sz0 xs0 vs) (fzT l0 sz0 xs0 tm) (fzH l0 sz0 xs0 H) ix) ⟨vs, tm, H, ix⟩ := by
 rintro X a w ⟨hN, F, m, h1, h2, h⟩
 have hH0 : ∀ l, X.H0 l = none := fun l => by
  cases e : X.H0 l with
  | none => rfl
  | some o => exact absurd (h1.hd l (by simp [e])) (hc l)
 have hlent : ∀ b, ¬ X.lent b := fun b ⟨l, ⟨o, ho, _⟩, _⟩ => by rw [hH0] at ho; cases ho
 let F' : Nat -> Prop := fun b => F b \/ (Live H m l0 /\ (m l0).1 = b)
 have hF : ∀ b, F b -> F' b := fun _ h => .inl h
 have hU : ∀ l, H l ≠ none -> l ≠ l0 -> fzH l0 sz0 xs0 H l ≠ none := fun l hl' hne => by
  cases e : H l with
  | none => exact absurd e hl'
  | some o => simp [fzH, hne, e]
 have hB : FzB w F' m l0 sz0 xs0 := by
  refine ⟨hn, ?_⟩
  rcases h.heap.obj l0 _ hl with ⟨g1, g2⟩ | ⟨g0, cc, g1, g2, g3, g4, g5⟩
  . exact .inl ⟨g1, g2⟩
  . refine .inr ⟨g0, .inr ⟨⟨_, hl, by simp, g0⟩, rfl⟩, T0, cc, g1, g3, ?_⟩
    exact (g5.keep (w' := w) (F' := F') (U' := fun l => H l ≠ none) (m' := m) hF (fun _ _ => rfl) (fun _ h => h) (fun _ _ => rfl)).nameless (by rw [<- a5q]; exact hn) _ _
 have hlive : ∀ l, Live (fzH l0 sz0 xs0 H) m l -> l ≠ l0 /\ Live H m l := fun l ⟨o, g1, g2, g3⟩ => by
  unfold fzH at g1
  split at g1
  . cases g1
  . rename_i hne
    rw [oM_] at g1
    obtain ⟨o', g1, rfl⟩ := g1
    refine ⟨hne, o', g1, ?_, g3⟩
    rintro rfl
    exact g2 rfl
 refine ⟨hN, F', m, h1.more hF, fun y hy => ?_, ?_⟩
 . rcases hy with hy | ⟨hy, rfl⟩
   . exact h2 y hy
   . exact .inr ((h.own l0 hy).resolve_left (hlent _))
 refine { df := h.df, vsz := by rw [a8j]; exact h.vsz, val := fun t => ?_, heap := ⟨fun l o ho => ?_, fun k k' hk hk' e => h.heap.inj k k' (hlive k hk).2 (hlive k' hk').2 e, fun k hk => ?_⟩, own := fun l hl => h.own l (hlive l hl).2,
          ext := fun l hl => absurd (hH0 l) hl, mfix := fun l hl => absurd (hH0 l) hl, frz := fun b hb => ?_, keep := h.keep, size := h.size, os := h.os, tape := h.tape, output := h.output }
 . have hv := h.val t
   have e : (Fs.mk (fzs l0 sz0 xs0 vs) (fzT l0 sz0 xs0 tm) (fzH l0 sz0 xs0 H) ix).get t = fz l0 sz0 xs0 ((Fs.mk vs tm H ix).get t) := by
    simp only [Fs.get, a8j]
    split
    . exact c7t ..
    . exact e3g ..
   rw [e]
   exact hv.fz hB hF hU
 . simp only [fzH] at ho
   split at ho
   . cases ho
   . rename_i hne
     rw [oM_] at ho
     obtain ⟨o', ho', rfl⟩ := ho
     have hob := h.heap.obj l o' ho'
     cases o' with
     | cells T sz xs =>
       simp only [fzO, OR] at hob ⊢
       rcases hob with ⟨b1, b2⟩ | ⟨b0, cc, b1, b2, b3, b4, b5⟩
       . left; subst b1; exact ⟨rfl, b2⟩
       . right
         refine ⟨b0, cc, b1, b2, c7v b3, by rw [a8s]; exact b4, ?_⟩
         rw [a8s, b3w]
         exact b5.fz hB hF hU
     | map es clk =>
       simp only [fzO, OR] at hob ⊢
       obtain ⟨b0, aa, b1, b2⟩ := hob
       exact ⟨b0, aa, b1, b2.fz hB hF hU⟩
     | iter x q r t =>
       simp only [fzO, OR] at hob ⊢
       obtain ⟨b0, aa, b1, b2⟩ := hob
       exact ⟨b0, aa, b1.fz hB hF hU, b2⟩
     | dead => trivial
 . obtain ⟨hne, hk'⟩ := hlive k hk
   obtain ⟨g1, g2⟩ := h.heap.old k hk'
   refine ⟨g1, ?_⟩
   rintro (hy | ⟨hy, e⟩)
   . exact g2 hy
   . exact hne (h.heap.inj k l0 hk' hy e.symm)
 . rcases hb with hb | ⟨hb, rfl⟩
   . exact h.frz b hb
   . exact (h.heap.old l0 hb).1
section
variable {P : Program} {c : Cfg} {ops : Array Oper} {o : Oper} {rest : List Oper} {s : Fs} {K : Fs -> Prop}
theorem c9i {t : TypeId} (ht : (slT P t).isSome = true) (ho : o.op = .buildSlice t 0 #[]) : WOk P s o [] .emp := by
 intro X F m a w h
 obtain ⟨⟨e, sz⟩, ht⟩ := Option.isSome_iff_exists.1 ht
 obtain ⟨hu, hz⟩ := a4n ht
 have hrun : (Instr.buildSlice t 0 #[]).run P w = .ok (.slice (some ⟨w.heap.size, 0, none⟩) 0 0) (w.alloc (.cells #[] e (0, 0))) := by
  simp only [Instr.buildSlice, Sem.run_bind, run_underlying hu, Result.andThen_ok, a4a hz, newRow]
  have e2 : ∀ f : Nat -> Value, (Array.range 0).map f = #[] := fun f => by simp
  simp [Instr.fill, newRow, Sem.run]
  rw [e2]
 refine ⟨m, .slice (some ⟨w.heap.size, 0, none⟩) 0 0, w.alloc (.cells #[] e (0, 0)), .inl (by simp only [execOp, ho, Sem.run_bind]; simp [hrun]), ?_, .emp _⟩
 exact h.world (by show w.heap.size <= (w.heap.push _).size; simp) (fun b hb => by show (w.heap.push _)[b]? = _; rw [Array.getElem?_push, if_neg (by omega)]) rfl rfl rfl
theorem e9r {n k d : Nat} {H0 : Heap} {rs : List Loc} {As : List Heap} (t : TypeId) (hk : k < n) (hd : b7r ops n k o = true) (ho : o.op = .buildSlice t 0 #[]) (ht : (slT P t).isSome = true) (hg : a2d ops o s = some true) (hdst : o.dst = some d) (hN : d < c.N)
 (h : awH P c ops n K H0 rs (k + 1) rest ({ s with H := ext s.H noH }.put d .emp) (As ++ [noH])) : awH P c ops n K H0 rs k (o :: rest) s As := by
 simp only [awH, hk, if_true]
 refine ⟨d, .emp, noH, H0, fun _ => False, ⟨hdst, hN, fun X s2 a w K Q h1 _ _ _ hR hK => ?_⟩, hd, fun _ h => absurd rfl h, fun _ h => h.elim, fun _ _ h => .inl h, h⟩
 have hg' : a2d ops o { s with H := H0 } = some true := hg
 rw [if_pos (a5i hR ((a5s h1).trans hg'))]
 refine .inl (b2v ((c9i (s := s2) (o := o) ht ho).snd (c := c) (s' := s2.put d .emp) ?_) hR ?_)
 . simp only [putD, hdst, upds]
   rw [if_pos hN]
   try rfl
 . intro v w' hr
   exact hK v w' (by rw [a1l]; exact hr)
theorem c9j {H1 H : Heap} (hs : HSub H1 H) {nm : Loc} (hn : H nm = none) {t tx : TypeId} {x y : FV} {r : List (Loc × FO) × FV} (h : wApp P H1 nm t tx x y = some r) : wApp P H nm t tx x y = some r := by
 unfold wApp at h ⊢
 split at h
 case h_2 => cases h
 split at h
 case h_2 => cases h
 split at h
 case isFalse => cases h
 rename_i hc0
 split at h
 case h_2 => cases h
 rename_i hsrc
 split at h
 case isFalse => cases h
 rename_i hcell
 simp only [c1r hs hsrc, hcell, hc0, if_true]
 split at h
 . split at h
   . rename_i hr; simp only [hr, if_true]; exact h
   . rename_i hr
     split at h
     case isFalse => cases h
     rename_i hc
     rw [bA_, bA_] at hc
     simp only [hr, hc.1, hc.2.1, hn, Option.isNone_none, Bool.and_self, if_true]
     exact h
 . split at h
   case isFalse => cases h
   rename_i hc
   rw [bA_, bA_] at hc
   simp only [hc.1, hc.2.1, hn, Option.isNone_none, Bool.and_self, if_true]
   exact h
 . split at h
   . rename_i hl
     simp only [hs _ _ hl]
     split at h
     case isFalse => cases h
     rename_i hc
     simp only [bA_] at hc
     obtain ⟨⟨c1, c2⟩, c3, c4, c5, c6, c7⟩ := hc
     simp only [c1, c2, c3, c4, c5, c6, hn, Option.isNone_none, Bool.and_self, if_true]
     exact h
   . cases h
 . cases h
theorem c1c {n k d : Nat} {H0 Hy : Heap} {rs : List Loc} {As : List Heap} {t tx e : TypeId} {x y : Operand} (l0 : Loc) (ob0 : FO) (sz : Nat) (ys : List (List FV)) (v : FV) (hk : k < n) (hd : b7r ops n k o = true)
 (ho : o.op = .call { callee := .builtin .append, args := ⟨[x, y]⟩, argTypes := ⟨[t, tx]⟩ }) (hg : a2d ops o s = some true) (hdst : o.dst = some d) (hN : d < c.N)
 (hrs : l0 ∈ rs) (h0 : H0 l0 = none) (hw : ∀ (j : Nat) (Aj : Heap), As[j]? = some Aj -> Aj l0 ≠ none -> a3v o j = true) (hy : ∀ l ob, Hy l = some ob -> l ∉ rs /\ ∃ j Aj, As[j]? = some Aj /\ a3v o j = true /\ Aj l = some ob)
 (hs : s.H l0 = some ob0) (hnm : s.H (c.nm d s.ix) = none)
 (hv : wApp P (upd Hy l0 ob0) (c.nm d s.ix) t tx (rv s x) (rv s y) = some ([(l0, .dead), (c.nm d s.ix, .cells e sz ys)], v))
 (h : awH P c ops n K H0 rs (k + 1) rest ({ s with H := ext s.H (upds noH [(l0, .dead), (c.nm d s.ix, .cells e sz ys)]) }.put d v) (As ++ [upds noH [(l0, .dead), (c.nm d s.ix, .cells e sz ys)]])) : awH P c ops n K H0 rs k (o :: rest) s As := by
 simp only [awH, hk, if_true]
 have hne : c.nm d s.ix ≠ l0 := fun e => by rw [e, hs] at hnm; cases hnm
 refine ⟨d, v, _, upd Hy l0 ob0, fun l => l = l0, e1w hg (by simp [a1r, ho]) hdst hN (fun s2 g1 g2 g3 g4 => ?_), hd, fun l hl => ?_, fun l hl => ?_, fun l ob hl => ?_, h⟩
 . have e1 : rv s2 x = rv s x := g1 x (by rw [ho]; simp [Op.operands, Call.operands])
   have e2 : rv s2 y = rv s y := g1 y (by rw [ho]; simp [Op.operands, Call.operands])
   have hnm2 : s2.H (c.nm d s.ix) = none := g4 _ (by simp [upds, upd]) hne
   have := c9j (P := P) g3 hnm2 hv
   simp only [wv, ho, g2, e1, e2]
   exact this
 . by_cases e : l = l0
   . exact .inl e
   . refine .inr ?_
     by_cases e' : l = c.nm d s.ix
     . rw [e']; exact hnm
     . exact absurd (by simp [upds, upd, e, e', noH]) hl
 . subst hl
   exact ⟨by simp [upds, upd, Ne.symm hne], hrs, h0, hw⟩
 . simp only [upd] at hl
   split at hl
   . rename_i e; subst e
     obtain rfl := sI_ hl
     exact .inr (.inl ⟨rfl, hs⟩)
   . exact .inr (.inr (hy l ob hl))
theorem d8j {As : List Heap} {l0 : Loc} (h : As.all (fun A => (A l0).isNone) = true) : ∀ (j : Nat) (Aj : Heap), As[j]? = some Aj -> Aj l0 ≠ none -> a3v o j = true := fun j Aj hj hne => by
 have := List.all_eq_true.1 h Aj (List.mem_of_getElem? hj)
 exact absurd (by simpa using this) hne
theorem c1l {As : List Heap} {l0 : Loc} (j0 : Nat) (hw : a3v o j0 = true) (h : As.zipIdx.all (fun A => (A.1 l0).isNone || A.2 == j0) = true) : ∀ (j : Nat) (Aj : Heap), As[j]? = some Aj -> Aj l0 ≠ none -> a3v o j = true := fun j Aj hj hne => by
 have := List.all_eq_true.1 h (Aj, j) (by rw [List.mem_zipIdx_iff_getElem?]; exact hj)
 simp only [Bool.or_eq_true, Option.isNone_iff_eq_none, beq_iff_eq] at this
 rcases this with h' | h'
 . exact absurd h' hne
 . rw [h']; exact hw
theorem c6y {As : List Heap} {Aj : Heap} {l1 : Loc} {ob1 : FO} {rs : List Loc} (j : Nat) (hj : As[j]? = some Aj) (hw : a3v o j = true) (h1 : Aj l1 = some ob1) (hrs : rs.contains l1 = false) :
 ∀ l ob, upd noH l1 ob1 l = some ob -> l ∉ rs /\ ∃ j Aj, As[j]? = some Aj /\ a3v o j = true /\ Aj l = some ob := fun l ob hl => by
 simp only [upd] at hl
 split at hl
 . rename_i e; subst e
   obtain rfl := sI_ hl
   exact ⟨by simpa using hrs, j, Aj, hj, hw, h1⟩
 . cases hl
theorem e6x {As : List Heap} {rs : List Loc} : ∀ l ob, noH l = some ob -> l ∉ rs /\ ∃ j Aj, As[j]? = some Aj /\ a3v o j = true /\ Aj l = some ob := fun _ _ h => by cases h
theorem d7l {n k d j : Nat} {H0 Aj : Heap} {rs : List Loc} {As : List Heap} {t tx e : TypeId} {x y : Operand} (l0 l1 : Loc) (ob0 ob1 : FO) (sz : Nat) (ys : List (List FV)) (v : FV) (hk : k < n) (hd : b7r ops n k o = true)
 (ho : o.op = .call { callee := .builtin .append, args := ⟨[x, y]⟩, argTypes := ⟨[t, tx]⟩ }) (hg : a2d ops o s = some true) (hdst : o.dst = some d) (hN : d < c.N)
 (hj : As[j]? = some Aj) (hw : a3v o j = true) (h1 : Aj l1 = some ob1) (hs : s.H l0 = some ob0) (h0 : H0 l0 = none) (hrs : (rs.contains l0 && !rs.contains l1) = true) (hAs : As.all (fun A => (A l0).isNone) = true) (hnm : s.H (c.nm d s.ix) = none)
 (hv : wApp P (upd (upd noH l1 ob1) l0 ob0) (c.nm d s.ix) t tx (rv s x) (rv s y) = some ([(l0, .dead), (c.nm d s.ix, .cells e sz ys)], v))
 (h : awH P c ops n K H0 rs (k + 1) rest ({ s with H := ext s.H (upds noH [(l0, .dead), (c.nm d s.ix, .cells e sz ys)]) }.put d v) (As ++ [upds noH [(l0, .dead), (c.nm d s.ix, .cells e sz ys)]])) : awH P c ops n K H0 rs k (o :: rest) s As := by
 simp only [bA_, Bool.not_eq_true'] at hrs
 exact c1c l0 ob0 sz ys v hk hd ho hg hdst hN (by simpa using hrs.1) h0 (d8j hAs) (c6y j hj hw h1 hrs.2) hs hnm hv h
theorem c8w {n k d j : Nat} {H0 Aj : Heap} {rs : List Loc} {As : List Heap} {t tx e : TypeId} {x y : Operand} (l0 l1 : Loc) (j0 : Nat) (ob0 ob1 : FO) (sz : Nat) (ys : List (List FV)) (v : FV) (hk : k < n) (hd : b7r ops n k o = true)
 (ho : o.op = .call { callee := .builtin .append, args := ⟨[x, y]⟩, argTypes := ⟨[t, tx]⟩ }) (hg : a2d ops o s = some true) (hdst : o.dst = some d) (hN : d < c.N)
 (hj : As[j]? = some Aj) (hw : a3v o j = true) (h1 : Aj l1 = some ob1) (hs : s.H l0 = some ob0) (h0 : H0 l0 = none) (hrs : (rs.contains l0 && !rs.contains l1) = true) (hw0 : a3v o j0 = true) (hAs : As.zipIdx.all (fun A => (A.1 l0).isNone || A.2 == j0) = true) (hnm : s.H (c.nm d s.ix) = none)
 (hv : wApp P (upd (upd noH l1 ob1) l0 ob0) (c.nm d s.ix) t tx (rv s x) (rv s y) = some ([(l0, .dead), (c.nm d s.ix, .cells e sz ys)], v))
 (h : awH P c ops n K H0 rs (k + 1) rest ({ s with H := ext s.H (upds noH [(l0, .dead), (c.nm d s.ix, .cells e sz ys)]) }.put d v) (As ++ [upds noH [(l0, .dead), (c.nm d s.ix, .cells e sz ys)]])) : awH P c ops n K H0 rs k (o :: rest) s As := by
 simp only [bA_, Bool.not_eq_true'] at hrs
 exact c1c l0 ob0 sz ys v hk hd ho hg hdst hN (by simpa using hrs.1) h0 (c1l j0 hw0 hAs) (c6y j hj hw h1 hrs.2) hs hnm hv h
theorem c8v {n k d : Nat} {H0 : Heap} {rs : List Loc} {As : List Heap} {t tx e : TypeId} {x y : Operand} (l0 : Loc) (j0 : Nat) (ob0 : FO) (sz : Nat) (ys : List (List FV)) (v : FV) (hk : k < n) (hd : b7r ops n k o = true)
 (ho : o.op = .call { callee := .builtin .append, args := ⟨[x, y]⟩, argTypes := ⟨[t, tx]⟩ }) (hg : a2d ops o s = some true) (hdst : o.dst = some d) (hN : d < c.N)
 (hs : s.H l0 = some ob0) (h0 : H0 l0 = none) (hrs : rs.contains l0 = true) (hw0 : a3v o j0 = true) (hAs : As.zipIdx.all (fun A => (A.1 l0).isNone || A.2 == j0) = true) (hnm : s.H (c.nm d s.ix) = none)
 (hv : wApp P (upd noH l0 ob0) (c.nm d s.ix) t tx (rv s x) (rv s y) = some ([(l0, .dead), (c.nm d s.ix, .cells e sz ys)], v))
 (h : awH P c ops n K H0 rs (k + 1) rest ({ s with H := ext s.H (upds noH [(l0, .dead), (c.nm d s.ix, .cells e sz ys)]) }.put d v) (As ++ [upds noH [(l0, .dead), (c.nm d s.ix, .cells e sz ys)]])) : awH P c ops n K H0 rs k (o :: rest) s As :=
 c1c l0 ob0 sz ys v hk hd ho hg hdst hN (by simpa using hrs) h0 (c1l j0 hw0 hAs) e6x hs hnm hv h
end
end Go.FM
namespace Go.FM
open Go
open Go.ChangeMaps (setBlock)
section
variable {P : Program} {X : Ctx} {c : Cfg} {w w' : World} {F F' : Nat -> Prop} {m m' : Loc -> Nat × Nat} {s s' : Fs} {a a' : Act} {o : Oper} {ops : Array Oper}
def OWp (P : Program) (c : Cfg) (o : Oper) (s : Fs) (Φ : Fs -> Prop) : Prop :=
 ∀ (X : Ctx) (a : Act) (w : World) (K : Act -> World -> Prop) (Q : Exit -> Act -> World -> Prop), Rel X c s a w -> (∀ s1 u w', Φ s1 -> Rel X c s1 (a.put o.dst u) w' -> K (a.put o.dst u) w') -> o.wp P a w K Q
theorem c5i {Q : Exit -> Act -> World -> Prop} {K : Fs -> Prop} {l2 : List Oper} (hK : ∀ s a w, Rel X c s a w -> K s -> wpList P ops Q l2 a w) :
 ∀ (l : List Oper) (s : Fs) (a : Act) (w : World), Rel X c s a w -> wOps P c ops l K s -> wpList P ops Q (l ++ l2) a w
 | [], s, a, w, h, hs => hK s a w h hs
 | o :: rest, s, a, w, h, hs => by
   have ih := c5i (l2 := l2) hK rest
   simp only [wOps] at hs
   rw [List.cons_append]
   unfold wpList
   split at hs
   . rename_i hg
     rw [if_pos (a5i h hg)]
     left
     unfold c9g at hs
     split at hs
     . rename_i f A hc
       obtain ⟨hf, r, H', hfc, s1, hp, hs⟩ := hs
       exact c4y hc hf hfc hp h fun v w' h' => ih s1 _ _ h' hs
     . obtain ⟨s1, hst, hs⟩ := hs
       exact b2v (b2r hst) h fun v w' h' => ih s1 _ _ h' hs
   . rename_i hg
     rw [if_neg (by rw [a5i h hg]; simp)]
     obtain ⟨s1, hst, hs⟩ := hs
     exact ih s1 _ _ (b9i h hst) hs
   . exact hs.elim
theorem REs.mem {U : Loc -> Prop} {es : List (FV × FV × Nat)} {xs : List MapEntry} (h : REs w F U m es xs) {x : MapEntry} (hx : x ∈ xs) : ∃ e ∈ es, RE w F U m e x := by
 induction h with
 | nil => cases hx
 | cons e y es ys h hs ih =>
   rcases List.mem_cons.1 hx with rfl | hx
   . exact ⟨e, by simp, h⟩
   . obtain ⟨e', h1, h2⟩ := ih hx
     exact ⟨e', by simp [h1], h2⟩
theorem REs.mem' {U : Loc -> Prop} {es : List (FV × FV × Nat)} {xs : List MapEntry} (h : REs w F U m es xs) {e : FV × FV × Nat} (he : e ∈ es) : ∃ x ∈ xs, RE w F U m e x := by
 induction h with
 | nil => cases he
 | cons e' y es ys h hs ih =>
   rcases List.mem_cons.1 he with rfl | hx
   . exact ⟨y, by simp, h⟩
   . obtain ⟨e', h1, h2⟩ := ih hx
     exact ⟨e', by simp [h1], h2⟩
end
end Go.FM
namespace Go.FM
open Go
section
variable {P : Program} {G : List (Nat × List Value)} {f : FuncId} {w w' : World} {F F' : Nat -> Prop} {m m' : Loc -> Nat × Nat}
mutual
def nin (U : Loc -> Prop) : FV -> Prop
 | .ptr l _ _ _ => U l
 | .sl l _ _ _ => U l
 | .mp l => U l
 | .agg cs => nins U cs
 | .tup cs => nins U cs
 | .clo _ a b => nins U a /\ nins U b
 | .list _ xs => nlss xs = true
 | .ref cs => nls cs = true
 | _ => True
def nins (U : Loc -> Prop) : List FV -> Prop
 | [] => True
 | v :: vs => nin U v /\ nins U vs
end
mutual
theorem RF.nin {U U' : Loc -> Prop} {a : FV} {v : Value} (h : RF w F U m a v) (ha : nin U' a) : RF w F U' m a v := by
 match a with
 | .ptr l sz i off => cases h with | ptr _ _ _ _ hu => exact .ptr l sz i off ha
 | .sl l sz off len =>
   cases h with
   | sl _ _ _ _ cap o hu hc ho hs => exact .sl l sz off len cap o ha hc ho hs
   | sl0 _ _ _ A hu h0 => exact .sl0 l sz off A ha h0
 | .mp l => cases h with | mp _ hu => exact .mp l ha
 | .agg cs => cases h with | agg _ vs h => exact .agg cs vs (RFs.nin h ha)
 | .tup cs => cases h with | tup _ vs h => exact .tup cs vs (RFs.nin h ha)
 | .clo g x y => cases h with | clo _ _ _ us vs h1 h2 => exact .clo g x y us vs (RFs.nin h1 ha.1) (RFs.nin h2 ha.2)
 | .list sz xs => exact h.nameless (by simpa [nl, FM.nin] using ha) _ _
 | .ref cs => exact h.nameless (by simpa [nl, FM.nin] using ha) _ _
 | .undef => exact h.nameless rfl _ _
 | .int .. => exact h.nameless rfl _ _
 | .bool _ => exact h.nameless rfl _ _
 | .str _ => exact h.nameless rfl _ _
 | .nilp => exact h.nameless rfl _ _
 | .nils => exact h.nameless rfl _ _
 | .nilm => exact h.nameless rfl _ _
 | .nilf => exact h.nameless rfl _ _
 | .emp => exact h.nameless rfl _ _
theorem RFs.nin {U U' : Loc -> Prop} {as : List FV} {vs : List Value} (h : RFs w F U m as vs) (ha : nins U' as) : RFs w F U' m as vs := by
 match as with
 | [] => cases h; exact .nil
 | a :: as => cases h with | cons _ v _ vs h hs => exact .cons a v as vs (RF.nin h ha.1) (RFs.nin hs ha.2)
end
def a2u (U : Loc -> Prop) : List (List FV) -> Prop
 | [] => True
 | v :: vs => nins U v /\ a2u U vs
def nine (U : Loc -> Prop) : List (FV × FV × Nat) -> Prop
 | [] => True
 | e :: es => (nin U e.1 /\ nin U e.2.1) /\ nine U es
def ninO (U : Loc -> Prop) : FO -> Prop
 | .cells _ _ xs => a2u U xs
 | .map es _ => nine U es
 | .iter x _ _ _ => nin U x
 | .dead => True
theorem d9v {U : Loc -> Prop} {a b : List FV} (h : nins U a) (h' : nins U b) : nins U (a ++ b) := by
 induction a with
 | nil => exact h'
 | cons x a ih => exact ⟨h.1, ih h.2⟩
theorem c9z {U : Loc -> Prop} {xs : List (List FV)} (h : a2u U xs) : nins U xs.flatten := by
 induction xs with
 | nil => trivial
 | cons x a ih => exact d9v h.1 (ih h.2)
theorem REs.nin {U U' : Loc -> Prop} {es : List (FV × FV × Nat)} {xs : List MapEntry} (h : REs w F U m es xs) (he : nine U' es) : REs w F U' m es xs := by
 match h with
 | .nil => exact .nil
 | .cons e x es xs h hs => exact .cons e x es xs ⟨h.key.nin he.1.1, h.val.nin he.1.2, h.born⟩ (REs.nin hs he.2)
def Clo (H : Heap) : Prop := ∀ l o, H l = some o -> ninO (fun l => H l ≠ none) o
theorem OR.nin {H H1 : Heap} {l : Loc} {o : FO} (h : OR w F H m l o) (ho : ninO (fun l => H1 l ≠ none) o) : OR w F H1 m l o := by
 cases o with
 | cells T sz xs =>
   simp only [OR] at h ⊢
   rcases h with h1 | ⟨h0, c, h1, h2, h3, h4, h5⟩
   . exact .inl h1
   . exact .inr ⟨h0, c, h1, h2, h3, h4, h5.nin (c9z ho)⟩
 | map es clk =>
   simp only [OR] at h ⊢
   obtain ⟨h0, b, h1, h2⟩ := h
   exact ⟨h0, b, h1, h2.nin ho⟩
 | iter x since seen last =>
   simp only [OR] at h ⊢
   obtain ⟨h0, q, h1, h2⟩ := h
   exact ⟨h0, q, h1.nin ho, h2⟩
 | dead => trivial
theorem a3y (H A : Heap) (l : Loc) : ext H A l = match A l with | some o => some o | none => H l := rfl
end
section
variable {β : Loc -> Option Loc} {U U' : Loc -> Prop}
mutual
theorem b9q {a : FV} (h : nin U a) (hb : ∀ l, U l -> β l = some l) : ren β a = a := by
 match a with
 | .ptr l sz i off => simp only [ren, hb l h]
 | .sl l sz off len => simp only [ren, hb l h]
 | .mp l => simp only [ren, hb l h]
 | .agg cs => simp only [ren, b0i h hb]
 | .tup cs => simp only [ren, b0i h hb]
 | .clo f x y => simp only [ren, b0i h.1 hb, b0i h.2 hb]
 | .list .. => rfl
 | .ref .. => rfl
 | .undef => rfl
 | .int .. => rfl
 | .bool _ => rfl
 | .str _ => rfl
 | .nilp => rfl
 | .nils => rfl
 | .nilm => rfl
 | .nilf => rfl
 | .emp => rfl
theorem b0i {as : List FV} (h : nins U as) (hb : ∀ l, U l -> β l = some l) : rens β as = as := by
 match as with
 | [] => rfl
 | a :: as => simp only [rens, b9q h.1 hb, b0i h.2 hb]
end
mutual
theorem c0h {a : FV} (h : nin U a) (hb : ∀ l, U l -> β l = some l) (hU : ∀ l, U l -> U' l) : inn β U' a := by
 match a with
 | .ptr l sz i off => exact ⟨hU l h, by simp [hb l h]⟩
 | .sl l sz off len => exact ⟨hU l h, by simp [hb l h]⟩
 | .mp l => exact ⟨hU l h, by simp [hb l h]⟩
 | .agg cs => exact b0p (as := cs) h hb hU
 | .tup cs => exact b0p (as := cs) h hb hU
 | .clo f x y => exact ⟨b0p (as := x) h.1 hb hU, b0p (as := y) h.2 hb hU⟩
 | .list .. => exact h
 | .ref .. => exact h
 | .undef => trivial
 | .int .. => trivial
 | .bool _ => trivial
 | .str _ => trivial
 | .nilp => trivial
 | .nils => trivial
 | .nilm => trivial
 | .nilf => trivial
 | .emp => trivial
theorem b0p {as : List FV} (h : nins U as) (hb : ∀ l, U l -> β l = some l) (hU : ∀ l, U l -> U' l) : inns β U' as := by
 match as with
 | [] => trivial
 | a :: as => exact ⟨c0h h.1 hb hU, b0p h.2 hb hU⟩
end
theorem b2a {xs : List (List FV)} (h : a2u U xs) (hb : ∀ l, U l -> β l = some l) : renss β xs = xs := by
 induction xs with
 | nil => rfl
 | cons a as ih => simp only [renss, b0i h.1 hb, ih h.2]
theorem b2l {xs : List (List FV)} (h : a2u U xs) (hb : ∀ l, U l -> β l = some l) (hU : ∀ l, U l -> U' l) : a6v β U' xs := by
 induction xs with
 | nil => trivial
 | cons a as ih => exact ⟨b0p h.1 hb hU, ih h.2⟩
theorem d9i {es : List (FV × FV × Nat)} (h : nine U es) (hb : ∀ l, U l -> β l = some l) : rene β es = es := by
 induction es with
 | nil => rfl
 | cons e es ih =>
   obtain ⟨k, v, n⟩ := e
   simp only [rene, b9q h.1.1 hb, b9q h.1.2 hb, ih h.2]
theorem e0n {es : List (FV × FV × Nat)} (h : nine U es) (hb : ∀ l, U l -> β l = some l) (hU : ∀ l, U l -> U' l) : inne β U' es := by
 induction es with
 | nil => trivial
 | cons e es ih =>
   obtain ⟨k, v, n⟩ := e
   exact ⟨⟨c0h h.1.1 hb hU, c0h h.1.2 hb hU⟩, ih h.2⟩
theorem d9j {o : FO} (h : ninO U o) (hb : ∀ l, U l -> β l = some l) : renO β o = o := by
 cases o with
 | cells T sz xs => simp only [renO, b2a (U := U) h hb]
 | map es clk => simp only [renO, d9i (U := U) h hb]
 | iter x a b c => simp only [renO, b9q (U := U) h hb]
 | dead => rfl
theorem e0q {o : FO} (h : ninO U o) (hb : ∀ l, U l -> β l = some l) (hU : ∀ l, U l -> U' l) : innO β U' o := by
 cases o with
 | cells T sz xs => exact b2l (U := U) h hb hU
 | map es clk => exact e0n (U := U) h hb hU
 | iter x a b c => exact c0h (U := U) h hb hU
 | dead => trivial
mutual
theorem b4u (hU : ∀ l, U l -> U' l) {a : FV} (h : nin U a) : nin U' a := by
 match a with
 | .ptr l sz i off => exact hU l h
 | .sl l sz off len => exact hU l h
 | .mp l => exact hU l h
 | .agg cs => exact a8e hU (as := cs) h
 | .tup cs => exact a8e hU (as := cs) h
 | .clo f x y => exact ⟨a8e hU (as := x) h.1, a8e hU (as := y) h.2⟩
 | .list .. => exact h
 | .ref .. => exact h
 | .undef => trivial
 | .int .. => trivial
 | .bool _ => trivial
 | .str _ => trivial
 | .nilp => trivial
 | .nils => trivial
 | .nilm => trivial
 | .nilf => trivial
 | .emp => trivial
theorem a8e (hU : ∀ l, U l -> U' l) {as : List FV} (h : nins U as) : nins U' as := by
 match as with
 | [] => trivial
 | a :: as => exact ⟨b4u hU h.1, a8e hU h.2⟩
end
end
theorem f3i {c : Cfg} {vs1 vs : List FV} {tm1 tm : Asg} {L : List (Loc × FO)} {A H : Heap} {ix1 ix : List Nat} (b : List (Loc × Option Loc)) (hinj : injB (bk b) (L.map Prod.fst) = true)
 (hA : ∀ l, A l ≠ none -> bk b l = some l /\ ∀ p ∈ L, p.1 ≠ l /\ bk b p.1 ≠ some l) (hcl : Clo A) (hs : HSub A H) (hc : ∀ l, c.L l -> A l ≠ none)
 (hv : a9d (bk b) (fun l => ext (hpL L) A l ≠ none) vs1 vs) (ht : simT (bk b) (fun l => ext (hpL L) A l ≠ none) vs.length tm tm1) (hH : simH (bk b) (fun l => ext (hpL L) A l ≠ none) H L) : Gk c (Fs.mk vs1 tm1 (ext (hpL L) A) ix1) ⟨vs, tm, H, ix⟩ := by
 obtain ⟨g1, g2⟩ := b5n hv
 have hdom : ∀ l, hpL L l ≠ none -> l ∈ L.map Prod.fst := fun l hl => by
  cases h : hpL L l with
  | none => exact absurd h hl
  | some o => exact List.mem_map.2 ⟨_, b6h L l o h, rfl⟩
 have hAE : ∀ l, A l ≠ none -> ext (hpL L) A l ≠ none := fun l hl => by
  obtain ⟨o, ho⟩ := Option.ne_none_iff_exists'.1 hl
  simp [a3y, ho]
 have hEn : ∀ l, A l = none -> ext (hpL L) A l = hpL L l := fun l hl => by simp [a3y, hl]
 refine e3o (bk b) g1 (fun t => ?_) (fun l o ho => ?_) (fun l l' k h1 h2 e1 e2 => ?_) (fun l hl _ => ⟨hAE l (hc l hl), (hA l (hc l hl)).1⟩)
 . simp only [Fs.get]
   rw [g1]
   split
   . rename_i hlt
     exact g2 t hlt
   . rcases b9k ht t with h | h
     . exact .inl h
     . exact h.2
 . have ho : ext (hpL L) A l = some o := ho
   cases e : A l with
   | some o' =>
     have : o' = o := by simpa [a3y, e] using ho
     subst this
     have hne : A l ≠ none := by simp [e]
     have ho' := hcl l o' e
     refine .inr (.inl ⟨l, (hA l hne).1, ?_, e0q ho' (fun k hk => (hA k hk).1) hAE⟩)
     rw [d9j ho' fun k hk => (hA k hk).1]
     exact hs l o' e
   | none =>
     rw [hEn l e] at ho
     have h1 := b9l hH _ (b6h L l o ho)
     unfold simO at h1
     split at h1
     . rename_i k hk; exact .inr (.inl ⟨k, hk, h1.1, h1.2⟩)
     . rename_i hk
       split at h1
       . rename_i T sz e; exact .inr (.inr ⟨hk, T, sz, e⟩)
       . exact h1.elim
 . have h1 : ext (hpL L) A l ≠ none := h1
   have h2 : ext (hpL L) A l' ≠ none := h2
   by_cases a1 : A l = none <;> by_cases a2 : A l' = none
   . rw [hEn l a1] at h1
     rw [hEn l' a2] at h2
     exact c0i hinj l (hdom l h1) l' (hdom l' h2) k e1 e2
   . have := (hA l' a2).1
     rw [this] at e2
     obtain rfl := sI_ e2
     rw [hEn l a1] at h1
     obtain ⟨p, hp, rfl⟩ := List.mem_map.1 (hdom l h1)
     exact absurd e1 ((hA _ a2).2 p hp).2
   . have := (hA l a1).1
     rw [this] at e1
     obtain rfl := sI_ e1
     rw [hEn l' a2] at h2
     obtain ⟨p, hp, rfl⟩ := List.mem_map.1 (hdom l' h2)
     exact absurd e2 ((hA _ a1).2 p hp).2
   . have q1 := (hA l a1).1
     have q2 := (hA l' a2).1
     rw [q1] at e1
     rw [q2] at e2
     exact (sI_ e1).trans (sI_ e2).symm
section
variable {P : Program} {c : Cfg} {Q : Exit -> Fs -> Prop} {s : Fs} {K : Fs -> Prop} {ops : Array Oper} {o : Oper} {rest : List Oper}
theorem g0c {G : List (Nat × List Value)} {f : FuncId} {fn : Func} {code : Code} {res : List ResultVar} (nv n : Nat) (keep : List Nat) (nm : Nat -> List Nat -> Loc) {args : List FV} {H H' : Heap} {r : FV} (hf : P.funcs[f]? = some fn) (hb : fn.body = some code) (hn : fn.ntmps = n) (hres : fn.results.toList = res)
 (hargs : args.length <= nv) (hnv : nv <= n) (h : a2s P ⟨n, keep, nm, G, fun l => H l ≠ none⟩ code (KEnd P res r H') (Fs.init nv args H)) : FC P G f args H r H' := by
 subst hn hres
 exact g0b (c := ⟨fn.ntmps, keep, nm, G, fun l => H l ≠ none⟩) hf hb rfl hargs hnv (fun _ h => h) h
theorem FC.less {G : List (Nat × List Value)} {f : FuncId} {args : List FV} {H H1 H' : Heap} {r : FV} (h : FC P G f args H r H1) (hs : HSub H' H1) (hk : ∀ l, H l ≠ none -> H' l ≠ none) (hr : nin (fun l => H' l ≠ none) r) (hc : Clo H') : FC P G f args H r H' := by
 intro w F m vs hF hG hv hH
 refine (h w F m vs hF hG hv hH).mono ?_
 rintro e w' ⟨v, F', m', he, k1, k2, k3, k4, k5, k6, k7⟩
 have live : ∀ l, Live H' m' l -> Live H1 m' l := fun l ⟨o, g1, g2⟩ => ⟨o, hs l o g1, g2⟩
 exact ⟨v, F', m', he, k1, k2, fun l hl => ⟨(k3 l hl).1, hk l hl⟩, k4.nin hr, ⟨fun l o ho => (k5.obj l o (hs l o ho)).nin (hc l o ho), fun l l' hl hl' => k5.inj l l' (live l hl) (live l' hl'), fun l hl => k5.old l (live l hl)⟩, fun l hl => k6 l (live l hl), k7⟩
end
def FCr (P : Program) (G : List (Nat × List Value)) (f : FuncId) (args : List FV) (H : Heap) (Φ : FV -> Heap -> Prop) : Prop :=
 ∀ (w : World) (F : Nat -> Prop) (m : Loc -> Nat × Nat) (vs : List Value), (∀ y, F y -> y < w.heap.size) -> a6s G F w -> RFs w F (fun l => H l ≠ none) m args vs -> HeapR w F m H ->
   Calls P f vs.toArray w fun e w' => ∃ (r : FV) (H' : Heap) (v : Value) (F' : Nat -> Prop) (m' : Loc -> Nat × Nat), Φ r H' /\ e = .returned v /\ (∀ y, F y -> F' y) /\ (∀ y, F' y -> (F y \/ w.heap.size <= y) /\ y < w'.heap.size) /\
    (∀ l, H l ≠ none -> m' l = m l /\ H' l ≠ none) /\ RF w' F' (fun l => H' l ≠ none) m' r v /\ HeapR w' F' m' H' /\ (∀ l, Live H' m' l -> (∃ k, Live H m k /\ (m k).1 = (m' l).1) \/ w.heap.size <= (m' l).1) /\
    w.heap.size <= w'.heap.size /\ (∀ y, y < w.heap.size -> (∀ l, Live H m l -> (m l).1 ≠ y) -> w'.heap[y]? = w.heap[y]?) /\ w'.os = w.os /\ w'.tape = w.tape /\ w'.output = w.output
section
variable {P : Program} {G : List (Nat × List Value)} {f : FuncId} {args : List FV} {H H' : Heap} {r : FV} {Φ Ψ : FV -> Heap -> Prop}
theorem FCr.mono (h : FCr P G f args H Φ) (hm : ∀ r H', Φ r H' -> Ψ r H') : FCr P G f args H Ψ := by
 intro w F m vs hF hG hv hH
 refine (h w F m vs hF hG hv hH).mono ?_
 rintro e w' ⟨r, H', v, F', m', h0, h1⟩
 exact ⟨r, H', v, F', m', hm r H' h0, h1⟩
theorem FCr.fc (h : FCr P G f args H (fun r1 H1 => r1 = r /\ H1 = H')) : FC P G f args H r H' := by
 intro w F m vs hF hG hv hH
 refine (h w F m vs hF hG hv hH).mono ?_
 rintro e w' ⟨r, H', v, F', m', ⟨rfl, rfl⟩, h1⟩
 exact ⟨v, F', m', h1⟩
def Part (H H1 : Heap) (r : FV) (H' : Heap) : Prop := HSub H' H1 /\ (∀ l, H l ≠ none -> H' l ≠ none) /\ nin (fun l => H' l ≠ none) r /\ Clo H'
theorem FCr.less (h : FCr P G f args H Φ) (hs : ∀ r H1, Φ r H1 -> ∃ H', Ψ r H' /\ Part H H1 r H') : FCr P G f args H Ψ := by
 intro w F m vs hF hG hv hH
 refine (h w F m vs hF hG hv hH).mono ?_
 rintro e w' ⟨r, H1, v, F', m', h0, he, k1, k2, k3, k4, k5, k6, k7⟩
 obtain ⟨H', hψ, hs, hk, hr, hc⟩ := hs r H1 h0
 have live : ∀ l, Live H' m' l -> Live H1 m' l := fun l ⟨o, g1, g2⟩ => ⟨o, hs l o g1, g2⟩
 exact ⟨r, H', v, F', m', hψ, he, k1, k2, fun l hl => ⟨(k3 l hl).1, hk l hl⟩, k4.nin hr, ⟨fun l o ho => (k5.obj l o (hs l o ho)).nin (hc l o ho), fun l l' hl hl' => k5.inj l l' (live l hl) (live l' hl'), fun l hl => k5.old l (live l hl)⟩, fun l hl => k6 l (live l hl), k7⟩
end
section
variable {P : Program} {c : Cfg} {Q : Exit -> Fs -> Prop} {s : Fs} {K : Fs -> Prop} {ops : Array Oper} {o : Oper} {rest : List Oper} {Φ : FV -> Heap -> Prop}
def LEnd (P : Program) (res : List ResultVar) (H : Heap) (Φ : FV -> Heap -> Prop) (e : Exit) (s : Fs) : Prop :=
 (e = .normal \/ e = .ret) /\ ∃ l, resL P s res = some l /\ ∃ H', Φ (a3n l) H' /\ Part H s.H (a3n l) H'
theorem f5o {f : FuncId} {fn : Func} {code : Code} {nv : Nat} {args : List FV} {H : Heap} (hf : P.funcs[f]? = some fn) (hb : fn.body = some code) (hN : c.N = fn.ntmps)
 (hargs : args.length <= nv) (hnv : nv <= fn.ntmps) (hL : ∀ l, H l ≠ none -> c.L l) (h : a2s P c code (LEnd P fn.results.toList H Φ) (Fs.init nv args H)) : FCr P c.G f args H Φ := by
 refine FCr.less (Φ := fun r H1 => ∃ H', Φ r H' /\ Part H H1 r H') ?_ fun r H1 h => h
 intro w F m vs hF hG hv hH
 have h' : a2s P c code (fun e s => (e = .normal \/ e = .ret) /\ ∃ s1, Wk s1 s /\ ∃ l, resL P s1 fn.results.toList = some l /\ ∃ H', Φ (a3n l) H' /\ Part H s1.H (a3n l) H') (Fs.init nv args H) :=
  a5o _ _ _ _ (fun e s ⟨he, l, h1, h2⟩ => ⟨he, s, Wk.refl s, l, h1, h2⟩) h
 refine (d5s (R := fun s1 l => ∃ H', Φ (a3n l) H' /\ Part H s1.H (a3n l) H') hf hb hN hargs hnv h' hL w F m vs hF hG hv hH).mono ?_
 rintro e w' ⟨v, s1, l, F', m', a, rfl, hR0, k1, k2, hR, hv2⟩
 refine ⟨a3n l, s1.H, v, F', m', hR0, rfl, k1, fun y hy => ⟨k2 y hy, hR.frz y hy⟩, fun l hl => ⟨hR.mfix l hl, hR.ext l hl⟩, hv2, hR.heap, fun l hl => ?_, hR.size, fun y hy hn => hR.keep y hy fun ⟨l, h1, h2⟩ => hn l h1 h2, hR.os, hR.tape, hR.output⟩
 rcases hR.own l hl with ⟨k, h1, h2⟩ | h1
 . exact .inl ⟨k, h1, h2⟩
 . exact .inr h1
theorem e4m {G : List (Nat × List Value)} {f : FuncId} {fn : Func} {code : Code} {res : List ResultVar} (nv n : Nat) (keep : List Nat) (nm : Nat -> List Nat -> Loc) {args : List FV} {H : Heap} (hf : P.funcs[f]? = some fn) (hb : fn.body = some code) (hn : fn.ntmps = n) (hres : fn.results.toList = res)
 (hargs : args.length <= nv) (hnv : nv <= n) (h : a2s P ⟨n, keep, nm, G, fun l => H l ≠ none⟩ code (LEnd P res H Φ) (Fs.init nv args H)) : FCr P G f args H Φ := by
 subst hn hres
 exact f5o (c := ⟨fn.ntmps, keep, nm, G, fun l => H l ≠ none⟩) hf hb rfl hargs hnv (fun _ h => h) h
theorem f5p {G : List (Nat × List Value)} {f : FuncId} {fn : Func} {code : Code} {res : List ResultVar} (nv n : Nat) (keep : List Nat) (nm : Nat -> List Nat -> Loc) {args : List FV} {H : Heap} {r : FV} {H' : Heap} (hf : P.funcs[f]? = some fn) (hb : fn.body = some code) (hn : fn.ntmps = n) (hres : fn.results.toList = res)
 (hargs : args.length <= nv) (hnv : nv <= n) (h : a2s P ⟨n, keep, nm, G, fun l => H l ≠ none⟩ code (LEnd P res H (fun r1 H1 => r1 = r /\ H1 = H')) (Fs.init nv args H)) : FC P G f args H r H' :=
 (e4m nv n keep nm hf hb hn hres hargs hnv h).fc
def LFin (H : Heap) (Φ : FV -> Heap -> Prop) (H1 : Heap) : Option (List FV) -> Prop
 | some l => ∃ H', Φ (a3n l) H' /\ Part H H1 (a3n l) H'
 | none => False
theorem d4d {res : List ResultVar} {H : Heap} {e : Exit} (he : e = .normal \/ e = .ret) (h : LFin H Φ s.H (resL P s res)) : LEnd P res H Φ e s := by
 unfold LFin at h
 split at h
 . rename_i l hl; exact ⟨he, l, hl, h⟩
 . exact h.elim
theorem f2r {res : List ResultVar} {H : Heap} (h : LFin H Φ s.H (resL P s res)) : LEnd P res H Φ .ret s := d4d (.inr rfl) h
theorem f2s {res : List ResultVar} {H : Heap} (h : LFin H Φ s.H (resL P s res)) : LEnd P res H Φ .normal s := d4d (.inl rfl) h
theorem e1x {X : Ctx} {a : Act} {w : World} {f : FuncId} {A : List FV} {K' : Act -> World -> Prop} {Q' : Exit -> Act -> World -> Prop} (hc : a1r s o = some (f, A)) (hf : fnOk P f = true) (hfc : FCr P c.G f A s.H Φ)
 (hp : ∀ d, o.dst = some d -> d < c.N) (h : Rel X c s a w) (hK : ∀ r H' s1 v w', Φ r H' -> putD c o r { s with H := H' } = some s1 -> Rel X c s1 (a.put o.dst v) w' -> K' (a.put o.dst v) w') : o.wp P a w K' Q' := by
 obtain ⟨hN, F, m, h1, h2, h⟩ := h
 unfold a1r at hc
 split at hc
 case h_2 => cases hc
 rename_i x args ts ho
 split at hc
 case h_2 => cases hc
 rename_i g first caps hx
 simp only [sE_, Prod.mk.injEq] at hc
 obtain ⟨rfl, rfl⟩ := hc
 have hxv := a3a h x
 rw [hx] at hxv
 generalize hvx : a.eval x = vx at hxv
 cases hxv with
 | clo _ _ _ us vs g1 g2 =>
 have hargs : RFs w F (fun l => s.H l ≠ none) m (first ++ args.toList.map (rv s) ++ caps) (us ++ args.toList.map a.eval ++ vs) := (g1.append (d2j h _)).append g2
 have hrun : (execOp a.eval o).run P w = .ok (.enter g (us ++ args.toList.map a.eval ++ vs).toArray) w := by
  unfold fnOk at hf
  split at hf
  . rename_i fn hfn
    simp only [bA_, bne_iff_ne, ne_eq] at hf
    have hb : ¬ fn.body = none := fun hh => by rw [hh] at hf; simp at hf
    have e : (us ++ args.toList.map a.eval ++ vs).toArray = us.toArray ++ args.map a.eval ++ vs.toArray := by
     apply Array.ext'
     simp
    rw [e]
    simp [execOp, ho, resolve, hvx, Deferred.ofValue, invoke, callFunc, hfn, hb, hf.1]
  . cases hf
 unfold Oper.wp
 rw [hrun, Oper.upon_enter]
 refine (hfc w F m _ h.frz (h1.here h) hargs h.heap).mono ?_
 rintro e w' ⟨r, H', v, F', m', h0, rfl, k1, k2, k3, k4, k5, k6, k7, k8, k9, k10, k11⟩
 have hR := h.called k1 k2 k3 k5 k6 k7 k8 k9 k10 k11
 have hput : ∃ s1, putD c o r { s with H := H' } = some s1 := by
  unfold putD
  cases hd : o.dst with
  | none => exact ⟨_, rfl⟩
  | some d => simp only; rw [if_pos (hp d hd)]; exact ⟨_, rfl⟩
 obtain ⟨s1, hs1⟩ := hput
 refine hK r H' s1 v w' h0 hs1 ⟨by rw [b0f]; exact hN, F', m', h1.more k1, fun y hy => ?_, b9t hR hN k4 hs1⟩
 rcases (k2 y hy).1 with h' | h'
 . exact h2 y h'
 . exact .inr (by have := h.size; omega)
theorem e2e {f : FuncId} {A : List FV} (hc : a1r s o = some (f, A)) (hf : fnOk P f = true) (hp : ∀ d, o.dst = some d -> d < c.N) (hfc : FCr P c.G f A s.H Φ) :
 OWp P c o s (fun s1 => ∃ r H', Φ r H' /\ putD c o r { s with H := H' } = some s1) := by
 intro X a w K' Q' hR hK
 exact e1x hc hf hfc hp hR fun r H' s1 v w' h0 h1 h2 => hK s1 v w' ⟨r, H', h0, h1⟩ h2
theorem a9j {B A : Heap} {l : Loc} {ob : FO} (h : A l = none) : upd (ext B A) l ob = ext (upd B l ob) A := by
 funext k
 by_cases e : k = l
 . subst e; simp [upd, ext, h]
 . simp [upd, ext, e]
theorem e1p (H : Heap) (l : Loc) (ob : FO) : ext H (upd noH l ob) = upd H l ob := by
 funext k
 by_cases e : k = l <;> simp [upd, ext, e, noH]
theorem a0w {B A : Heap} {l : Loc} : ext B A l = none ↔ A l = none /\ B l = none := by
 rw [a3y]
 cases A l <;> simp
theorem b6w {B A : Heap} {l : Loc} (h : A l = none) : ext B A l = B l := by rw [a3y, h]
theorem a7w {B A : Heap} {l : Loc} {ob : FO} (h : A l = some ob) : ext B A l = some ob := by rw [a3y, h]
theorem HSub.ext' {B1 B A : Heap} (hs : HSub B1 B) : HSub (ext B1 A) (ext B A) := fun k o' hk => by
 rw [a3y] at hk ⊢
 cases e : A k with
 | some o => rw [e] at hk; exact hk
 | none => rw [e] at hk; exact hs k o' hk
def Free (j : Nat) (H : Heap) : Prop := ∀ k r, k <= j -> H (k :: r) = none
theorem Free.ext' {j : Nat} {B A : Heap} (hB : Free j B) (hA : Free j A) : Free j (ext B A) := fun k r hk => a0w.2 ⟨hA k r hk, hB k r hk⟩
theorem Free.le {i j : Nat} {H : Heap} (h : Free j H) (hi : i <= j) : Free i H := fun k r hk => h k r (by omega)
def updL : List (Loc × FO) -> Heap -> Heap
 | [], H => H
 | (l, o) :: r, H => upd (updL r H) l o
theorem b4k {base A : Heap} : ∀ {L : List (Loc × FO)}, (∀ p ∈ L, ext base A p.1 = none) -> ext (updL L base) A = ext (hpL L) (ext base A)
 | [], _ => by
   funext k
   show ext base A k = _
   cases e : ext base A k with
   | none => rw [a3y, e]; rfl
   | some o => rw [a3y, e]
 | (l, o) :: r, h => by
   have ih := b4k (L := r) fun p hp => h p (by simp [hp])
   have h0 := h (l, o) (by simp)
   show ext (upd (updL r base) l o) A = ext (upd (hpL r) l o) (ext base A)
   rw [<- a9j (a0w.1 h0).1, ih, a9j h0]
mutual
theorem a3k {U U' : Loc -> Prop} (hU : ∀ l, U l -> U' l) {o : FO} (h : ninO U o) : ninO U' o := by
 cases o with
 | cells T sz xs => exact b8j hU h
 | map es clk => exact c2e hU h
 | iter x a b c => exact b4u hU h
 | dead => trivial
theorem b8j {U U' : Loc -> Prop} (hU : ∀ l, U l -> U' l) {xs : List (List FV)} (h : a2u U xs) : a2u U' xs := by
 match xs with
 | [] => trivial
 | x :: xs => exact ⟨a8e hU h.1, b8j hU h.2⟩
theorem c2e {U U' : Loc -> Prop} (hU : ∀ l, U l -> U' l) {xs : List (FV × FV × Nat)} (h : nine U xs) : nine U' xs := by
 match xs with
 | [] => trivial
 | x :: xs => exact ⟨⟨b4u hU h.1.1, b4u hU h.1.2⟩, c2e hU h.2⟩
end
theorem e3p {vs1 vs : List FV} {tm1 tm : Asg} {L : List (Loc × FO)} {base A H : Heap} {ix1 ix : List Nat} (b : List (Loc × Option Loc)) (hinj : injB (bk b) (L.map Prod.fst) = true)
 (hN : ∀ n ∈ L.map Prod.fst ++ b.map Prod.fst ++ b.filterMap Prod.snd, ext base A n = none) (hcl : Clo (ext base A)) (hs : HSub (ext base A) H) (hc : ∀ l, c.L l -> ext base A l ≠ none)
 (hv : a9d (bk b) (fun l => ext (updL L base) A l ≠ none) vs1 vs) (ht : simT (bk b) (fun l => ext (updL L base) A l ≠ none) vs.length tm tm1) (hH : simH (bk b) (fun l => ext (updL L base) A l ≠ none) H L) : Gk c (Fs.mk vs1 tm1 (ext (updL L base) A) ix1) ⟨vs, tm, H, ix⟩ := by
 have e := b4k (L := L) (base := base) (A := A) fun p hp => hN _ (by simp only [List.mem_append, List.mem_map]; exact .inl (.inl ⟨p, hp, rfl⟩))
 rw [e] at hv ht hH ⊢
 have hbk : ∀ (b : List (Loc × Option Loc)) (l : Loc), (∀ p ∈ b, p.1 ≠ l) -> bk b l = some l := by
  intro b
  induction b with
  | nil => intro l _; rfl
  | cons p b ih =>
    obtain ⟨k, o⟩ := p
    intro l h
    have h1 : l ≠ k := fun e => h (k, o) (by simp) e.symm
    simp only [bk, h1, if_false]
    exact ih l fun p hp => h p (by simp [hp])
 have hbk2 : ∀ (b : List (Loc × Option Loc)) (l k : Loc), bk b l = some k -> k = l \/ k ∈ b.filterMap Prod.snd := by
  intro b
  induction b with
  | nil => intro l k h; exact .inl (sI_ h).symm
  | cons p b ih =>
    obtain ⟨q, o⟩ := p
    intro l k h
    simp only [bk] at h
    split at h
    . right; simp [List.filterMap_cons, h]
    . rcases ih l k h with h | h
      . exact .inl h
      . right
        cases o <;> simp [List.filterMap_cons, h]
 refine f3i b hinj (fun l hl => ⟨hbk b l fun p hp e' => ?_, fun p hp => ⟨fun e' => ?_, fun e' => ?_⟩⟩) hcl hs hc hv ht hH
 . exact hl (e' ▸ hN p.1 (by simp only [List.mem_append, List.mem_map]; exact .inl (.inr ⟨p, hp, rfl⟩)))
 . exact hl (e' ▸ hN p.1 (by simp only [List.mem_append, List.mem_map]; exact .inl (.inl ⟨p, hp, rfl⟩)))
 . rcases hbk2 b _ _ e' with h | h
   . exact hl (h ▸ hN p.1 (by simp only [List.mem_append, List.mem_map]; exact .inl (.inl ⟨p, hp, rfl⟩)))
   . exact hl (hN l (by simp only [List.mem_append]; exact .inr h))
end
end Go.FM
