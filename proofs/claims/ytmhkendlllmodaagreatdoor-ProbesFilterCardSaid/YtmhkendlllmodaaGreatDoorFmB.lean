/- One of the texts of a proof by an abstract machine over the model. -/
import Derived.Test.YtmhkendlllmodaaGreatDoorFmA
set_option linter.unusedSimpArgs false
set_option linter.unusedVariables false
namespace Go.FM
open Go

abbrev Asg := List (Nat × FV)
def lk : Asg → Nat → FV
  | [], _ => .undef
  | (k, v) :: r, t => if k = t then v else lk r t

/-- the abstract state: the variables' slots; the temporaries; the named blocks; the numbers that new names take -/
structure FS where
  vars : List FV
  tm : Asg
  H : Heap
  ix : List Nat

def FS.get (s : FS) (t : Nat) : FV := if t < s.vars.length then s.vars.getD t .undef else lk s.tm t
def FS.put (s : FS) (t : Nat) (v : FV) : FS := if t < s.vars.length then { s with vars := s.vars.set t v } else { s with tm := (t, v) :: s.tm }
def upd (H : Heap) (l : Loc) (o : FO) : Heap := fun k => if k = l then some o else H k
def FV.isU : FV → Bool
  | .undef => true
  | _ => false

theorem lk_cons (l : Asg) (d t : Nat) (x : FV) : lk ((d, x) :: l) t = if d = t then x else lk l t := rfl
theorem get_put (s : FS) (d t : Nat) (x : FV) : (s.put d x).get t = if t = d then x else s.get t := by
  unfold FS.put
  split
  · rename_i h
    simp only [FS.get, List.length_set]
    by_cases e : t = d
    · subst e; simp [h]
    · simp only [e, if_false]
      split
      · rw [List.getD_eq_getElem?_getD, List.getD_eq_getElem?_getD, List.getElem?_set_ne (Ne.symm e)]
      · rfl
  · rename_i h
    simp only [FS.get]
    by_cases e : t = d
    · subst e; simp [h, lk_cons]
    · simp only [e, if_false, lk_cons, Ne.symm e]
theorem vars_put (s : FS) (d : Nat) (x : FV) : (s.put d x).vars.length = s.vars.length := by
  unfold FS.put; split <;> simp
theorem H_put (s : FS) (d : Nat) (x : FV) : (s.put d x).H = s.H := by
  unfold FS.put; split <;> rfl
theorem ix_put (s : FS) (d : Nat) (x : FV) : (s.put d x).ix = s.ix := by
  unfold FS.put; split <;> rfl
theorem getD_put (a : Act) (d t : Nat) (v : Value) (hd : d < a.tmps.size) : (a.put (some d) v).tmps.getD t undef = if t = d then v else a.tmps.getD t undef := by
  simp only [Act.put, Array.getD_eq_getD_getElem?]
  by_cases e : t = d
  · subst e; simp [hd]
  · rw [Array.getElem?_setIfInBounds_ne (Ne.symm e)]; simp [e]
theorem size_put (a : Act) (d : Option Tmp) (v : Value) : (a.put d v).tmps.size = a.tmps.size := by cases d <;> simp [Act.put]
theorem isU_iff {x : FV} (h : x.isU = true) : x = .undef := by cases x <;> first | rfl | (simp [FV.isU] at h)

structure Cfg where
  N : Nat
  keep : List Nat
  nm : Nat → List Nat → Loc
  G : List (Nat × List Value) := []
  /-- the names that may be lent -/
  L : Loc → Prop := fun _ => True
structure Ctx where
  w0 : World
  F0 : Nat → Prop
  H0 : Heap
  m0 : Loc → Nat × Nat
/-- a block that was there and may be written: it bears a name -/
def Ctx.lent (X : Ctx) (b : Nat) : Prop := ∃ l, Live X.H0 X.m0 l ∧ (X.m0 l).1 = b

structure RelX (X : Ctx) (F : Nat → Prop) (m : Loc → Nat × Nat) (s : FS) (a : Act) (w : World) : Prop where
  df : a.defers = []
  vsz : s.vars.length ≤ a.tmps.size
  val : ∀ t, RF w F (fun l => s.H l ≠ none) m (s.get t) (a.tmps.getD t undef)
  heap : HeapR w F m s.H
  own : ∀ l, Live s.H m l → X.lent (m l).1 ∨ X.w0.heap.size ≤ (m l).1
  ext : ∀ l, X.H0 l ≠ none → s.H l ≠ none
  mfix : ∀ l, X.H0 l ≠ none → m l = X.m0 l
  frz : ∀ b, F b → b < w.heap.size
  keep : ∀ b, b < X.w0.heap.size → ¬ X.lent b → w.heap[b]? = X.w0.heap[b]?
  size : X.w0.heap.size ≤ w.heap.size
  os : w.os = X.w0.os
  tape : w.tape = X.w0.tape
  output : w.output = X.w0.output
/-- what the package variables hold -/
def GlobOk (G : List (Nat × List Value)) (F : Nat → Prop) (w : World) : Prop := ∀ p ∈ G, F p.1 ∧ p.1 < w.heap.size ∧ ∀ j v, p.2[j]? = some v → w.cell? ⟨p.1, j, none⟩ = some v
structure FX (c : Cfg) (X : Ctx) (F : Nat → Prop) : Prop where
  up : ∀ y, X.F0 y → F y
  gl : GlobOk c.G X.F0 X.w0
  nl : ∀ p ∈ c.G, ¬ X.lent p.1
  hd : ∀ l, X.H0 l ≠ none → c.L l
def Rel (X : Ctx) (c : Cfg) (s : FS) (a : Act) (w : World) : Prop :=
  a.tmps.size = c.N ∧ ∃ F m, FX c X F ∧ (∀ y, F y → X.F0 y ∨ X.w0.heap.size ≤ y) ∧ RelX X F m s a w

section
variable {X : Ctx} {c : Cfg} {w w' : World} {F F' : Nat → Prop} {m m' : Loc → Nat × Nat} {s s' : FS} {a a' : Act}

theorem GlobOk.mono {G : List (Nat × List Value)} (h : GlobOk G F w) (hF : ∀ p ∈ G, F p.1 → F' p.1) : GlobOk G F' w := fun p hp => ⟨hF p hp (h p hp).1, (h p hp).2⟩
theorem GlobOk.nil : GlobOk [] F w := fun _ h => by cases h
theorem FX.here (hx : FX c X F) (h : RelX X F m s a w) : GlobOk c.G F w := fun p hp => by
  obtain ⟨h1, h2, h3⟩ := hx.gl p hp
  exact ⟨hx.up _ h1, Nat.lt_of_lt_of_le h2 h.size, fun j v hv => (World.cell?_of_block (h.keep p.1 h2 (hx.nl p hp))).trans (h3 j v hv)⟩
theorem FX.more (hx : FX c X F) (hF : ∀ y, F y → F' y) : FX c X F' := ⟨fun y hy => hF y (hx.up y hy), hx.gl, hx.nl, hx.hd⟩
/-- a slot is written -/
theorem RelX.put (h : RelX X F m s a w) {d : Nat} {x : FV} {v : Value} (hd : d < a.tmps.size) (hx : RF w F (fun l => s.H l ≠ none) m x v) : RelX X F m (s.put d x) (a.put (some d) v) w :=
  { h with
    vsz := by rw [vars_put, size_put]; exact h.vsz
    val := fun t => by
      rw [get_put, getD_put _ _ _ _ hd, H_put]
      split
      · exact hx
      · exact h.val t
    heap := by rw [H_put]; exact h.heap
    own := by rw [H_put]; exact h.own
    ext := by rw [H_put]; exact h.ext }

theorem RelX.putO (h : RelX X F m s a w) {o : Option Tmp} {x : FV} {v : Value} (hd : ∀ d, o = some d → d < a.tmps.size) (hx : RF w F (fun l => s.H l ≠ none) m x v) :
    RelX X F m (match o with | some d => s.put d x | none => s) (a.put o v) w := by
  cases o with
  | none => exact h
  | some d => exact h.put (hd d rfl) hx

/-- the world turns where no named block and nothing read-only lies, and grows -/
theorem RelX.world (h : RelX X F m s a w) (hsz : w.heap.size ≤ w'.heap.size) (hw : ∀ b, b < w.heap.size → w'.heap[b]? = w.heap[b]?) (hos : w'.os = w.os) (htape : w'.tape = w.tape) (hout : w'.output = w.output) :
    RelX X F m s a w' := by
  have hF : ∀ b, F b → w'.heap[b]? = w.heap[b]? := fun b hb => hw b (h.frz b hb)
  refine { df := h.df, vsz := h.vsz, val := fun t => (h.val t).keep (fun _ h => h) hF (fun _ h => h) (fun _ _ => rfl), heap := ⟨fun l o ho => ?_, h.heap.inj, fun l hl => ?_⟩, own := h.own, ext := h.ext, mfix := h.mfix, frz := fun b hb => ?_, keep := fun b hb hn => ?_, size := Nat.le_trans h.size hsz, os := hos.trans h.os, tape := htape.trans h.tape, output := hout.trans h.output }
  · exact (h.heap.obj l o ho).keep (fun _ h => h) hF (fun _ h => h) (fun _ _ => rfl) rfl (fun hd h0 => hw _ (h.heap.old l ⟨o, ho, hd, h0⟩).1)
  · have := h.heap.old l hl; exact ⟨by omega, this.2⟩
  · have := h.frz b hb; omega
  · rw [hw b (by have := h.size; omega)]; exact h.keep b hb hn

/-- a named block's content turns -/
theorem RelX.write (h : RelX X F m s a w) {l : Loc} {o0 o : FO} (hl : s.H l = some o0) (hlive : Live s.H m l) (hne : o ≠ .dead)
    (hsz : w.heap.size ≤ w'.heap.size) (hw : ∀ b, b < w.heap.size → b ≠ (m l).1 → w'.heap[b]? = w.heap[b]?) (hos : w'.os = w.os) (htape : w'.tape = w.tape) (hout : w'.output = w.output)
    (ho : OR w' F (upd s.H l o) m l o) : RelX X F m { s with H := upd s.H l o } a w' := by
  have hU : ∀ k, s.H k ≠ none → upd s.H l o k ≠ none := fun k hk => by unfold upd; split <;> simp [hk]
  have hlF : ¬ F (m l).1 := (h.heap.old l hlive).2
  have hF : ∀ b, F b → w'.heap[b]? = w.heap[b]? := fun b hb => hw b (h.frz b hb) (fun e => hlF (e ▸ hb))
  have hupd : ∀ k, k ≠ l → upd s.H l o k = s.H k := fun k hk => by simp [upd, hk]
  have hself : upd s.H l o l = some o := by simp [upd]
  have hLive : ∀ k, Live (upd s.H l o) m k → Live s.H m k := fun k ⟨o', h1, h2, h3⟩ => by
    by_cases e : k = l
    · subst e; exact hlive
    · rw [hupd k e] at h1; exact ⟨o', h1, h2, h3⟩
  refine { df := h.df, vsz := h.vsz, val := fun t => (h.val t).keep (fun _ h => h) hF hU (fun _ _ => rfl), heap := ⟨fun k ok hk => ?_, fun k k' hk hk' e => h.heap.inj k k' (hLive k hk) (hLive k' hk') e, fun k hk => ?_⟩, own := fun k hk => h.own k (hLive k hk), ext := fun k hk => hU k (h.ext k hk), mfix := h.mfix, frz := fun b hb => ?_, keep := fun b hb hn => ?_, size := Nat.le_trans h.size hsz, os := hos.trans h.os, tape := htape.trans h.tape, output := hout.trans h.output }
  · have hk : upd s.H l o k = some ok := hk
    show OR w' F (upd s.H l o) m k ok
    by_cases e : k = l
    · subst e
      rw [hself] at hk
      obtain rfl := Option.some.inj hk
      exact ho
    · rw [hupd k e] at hk
      exact (h.heap.obj k ok hk).keep (fun _ h => h) hF hU (fun _ _ => rfl) rfl (fun hd h0 => hw _ (h.heap.old k ⟨ok, hk, hd, h0⟩).1 fun e' => e (h.heap.inj k l ⟨ok, hk, hd, h0⟩ hlive e'))
  · have := h.heap.old k (hLive k hk); exact ⟨by omega, this.2⟩
  · have := h.frz b hb; omega
  · have hb' : b ≠ (m l).1 := fun e => by
      rcases h.own l hlive with h1 | h1
      · exact hn (e ▸ h1)
      · omega
    rw [hw b (by have := h.size; omega) hb']; exact h.keep b hb hn

/-- a new block takes a new name -/
theorem RelX.fresh (h : RelX X F m s a w) {l : Loc} {o : FO} {n : Nat} (hl : s.H l = none)
    (hsz : w.heap.size < w'.heap.size) (hw : ∀ b, b < w.heap.size → w'.heap[b]? = w.heap[b]?) (hos : w'.os = w.os) (htape : w'.tape = w.tape) (hout : w'.output = w.output)
    (ho : OR w' F (upd s.H l o) (fun k => if k = l then (w.heap.size, n) else m k) l o) :
    RelX X F (fun k => if k = l then (w.heap.size, n) else m k) { s with H := upd s.H l o } a w' := by
  have h1 := h.world (Nat.le_of_lt hsz) hw hos htape hout
  have hU : ∀ k, s.H k ≠ none → upd s.H l o k ≠ none := fun k hk => by unfold upd; split <;> simp [hk]
  have hm : ∀ k, s.H k ≠ none → (if k = l then (w.heap.size, n) else m k) = m k := fun k hk => by
    have : k ≠ l := fun e => hk (e ▸ hl)
    rw [if_neg this]
  have hupd : ∀ k, k ≠ l → upd s.H l o k = s.H k := fun k hk => by simp [upd, hk]
  have hself : upd s.H l o l = some o := by simp [upd]
  have hLive : ∀ k, k ≠ l → Live (upd s.H l o) (fun k => if k = l then (w.heap.size, n) else m k) k → Live s.H m k := fun k e ⟨o', g1, g2, g3⟩ => by
    rw [hupd k e] at g1
    have g3 : (if k = l then (w.heap.size, n) else m k).2 ≠ 0 := g3
    rw [if_neg e] at g3; exact ⟨o', g1, g2, g3⟩
  refine { df := h.df, vsz := h.vsz, val := fun t => (h1.val t).keep (fun _ h => h) (fun _ _ => rfl) hU hm, heap := ⟨fun k ok hk => ?_, fun k k' hk hk' e => ?_, fun k hk => ?_⟩, own := fun k hk => ?_, ext := fun k hk => hU k (h.ext k hk), mfix := fun k hk => (hm k (h.ext k hk)).trans (h.mfix k hk), frz := h1.frz, keep := h1.keep, size := h1.size, os := h1.os, tape := h1.tape, output := h1.output }
  · have hk : upd s.H l o k = some ok := hk
    show OR w' F (upd s.H l o) (fun k => if k = l then (w.heap.size, n) else m k) k ok
    by_cases e : k = l
    · subst e
      rw [hself] at hk
      obtain rfl := Option.some.inj hk
      exact ho
    · rw [hupd k e] at hk
      exact (h1.heap.obj k ok hk).keep (fun _ h => h) (fun _ _ => rfl) hU hm (if_neg e) (fun _ _ => rfl)
  · by_cases e1 : k = l <;> by_cases e2 : k' = l
    · rw [e1, e2]
    · exfalso
      have := (h.heap.old k' (hLive k' e2 hk')).1
      simp only [e1, e2, if_true, if_false] at e
      omega
    · exfalso
      have := (h.heap.old k (hLive k e1 hk)).1
      simp only [e1, e2, if_true, if_false] at e
      omega
    · simp only [e1, e2, if_false] at e
      exact h.heap.inj k k' (hLive k e1 hk) (hLive k' e2 hk') e
  · by_cases e : k = l
    · subst e
      simp only [if_true]
      exact ⟨hsz, fun hF => by have := h.frz _ hF; omega⟩
    · simp only [e, if_false]
      exact h1.heap.old k (hLive k e hk)
  · by_cases e : k = l
    · simp only [e, if_true]; exact .inr h.size
    · simp only [e, if_false]; exact h.own k (hLive k e hk)

/-- a name for nothing -/
theorem RelX.ghost0 (h : RelX X F m s a w) {l : Loc} {T : TypeId} {sz : Nat} (hl : s.H l = none) : RelX X F (fun k => if k = l then (0, 0) else m k) { s with H := upd s.H l (.cells T sz []) } a w := by
  have hU : ∀ k, s.H k ≠ none → upd s.H l (.cells T sz []) k ≠ none := fun k hk => by unfold upd; split <;> simp [hk]
  have hm : ∀ k, s.H k ≠ none → (if k = l then (0, 0) else m k) = m k := fun k hk => by
    have : k ≠ l := fun e => hk (e ▸ hl)
    rw [if_neg this]
  have hupd : ∀ k, k ≠ l → upd s.H l (.cells T sz []) k = s.H k := fun k hk => by simp [upd, hk]
  have hself : upd s.H l (.cells T sz []) l = some (.cells T sz []) := by simp [upd]
  have hLive : ∀ k, Live (upd s.H l (.cells T sz [])) (fun k => if k = l then (0, 0) else m k) k → k ≠ l ∧ Live s.H m k := fun k ⟨o', g1, g2, g3⟩ => by
    have g3 : (if k = l then ((0, 0) : Nat × Nat) else m k).2 ≠ 0 := g3
    by_cases e : k = l
    · rw [if_pos e] at g3; exact absurd rfl g3
    · rw [if_neg e] at g3; rw [hupd k e] at g1; exact ⟨e, o', g1, g2, g3⟩
  refine { df := h.df, vsz := h.vsz, val := fun t => (h.val t).keep (fun _ h => h) (fun _ _ => rfl) hU hm, heap := ⟨fun k ok hk => ?_, fun k k' hk hk' e => ?_, fun k hk => ?_⟩, own := fun k hk => ?_, ext := fun k hk => hU k (h.ext k hk), mfix := fun k hk => (hm k (h.ext k hk)).trans (h.mfix k hk), frz := h.frz, keep := h.keep, size := h.size, os := h.os, tape := h.tape, output := h.output }
  · have hk : upd s.H l (.cells T sz []) k = some ok := hk
    show OR w F (upd s.H l (.cells T sz [])) (fun k => if k = l then (0, 0) else m k) k ok
    by_cases e : k = l
    · subst e
      rw [hself] at hk
      obtain rfl := Option.some.inj hk
      exact .inl ⟨rfl, by simp⟩
    · rw [hupd k e] at hk
      exact (h.heap.obj k ok hk).keep (fun _ h => h) (fun _ _ => rfl) hU hm (if_neg e) (fun _ _ => rfl)
  · obtain ⟨e1, k1⟩ := hLive k hk
    obtain ⟨e2, k2⟩ := hLive k' hk'
    simp only [e1, e2, if_false] at e
    exact h.heap.inj k k' k1 k2 e
  · obtain ⟨e1, k1⟩ := hLive k hk
    simp only [e1, if_false]
    exact h.heap.old k k1
  · obtain ⟨e1, k1⟩ := hLive k hk
    simp only [e1, if_false]
    exact h.own k k1

/-- a block takes another name: the old name is dead -/
theorem RelX.rename (h : RelX X F m s a w) {l l' : Loc} {T : TypeId} {sz : Nat} {xs : List (List FV)} (hl : s.H l = some (.cells T sz xs)) (hl' : s.H l' = none) :
    RelX X F (fun k => if k = l' then m l else m k) { s with H := upd (upd s.H l .dead) l' (.cells T sz xs) } a w := by
  have hll : l ≠ l' := fun e => by rw [e, hl'] at hl; cases hl
  have hval : ∀ k, upd (upd s.H l .dead) l' (.cells T sz xs) k = if k = l' then some (.cells T sz xs) else if k = l then some .dead else s.H k := fun k => rfl
  have hU : ∀ k, s.H k ≠ none → upd (upd s.H l .dead) l' (.cells T sz xs) k ≠ none := fun k hk => by rw [hval]; split <;> (try split) <;> simp [hk]
  have hm : ∀ k, s.H k ≠ none → (if k = l' then m l else m k) = m k := fun k hk => by
    have : k ≠ l' := fun e => hk (e ▸ hl')
    rw [if_neg this]
  -- the live names: the new one for the old one
  have hLive : ∀ k, Live (upd (upd s.H l .dead) l' (.cells T sz xs)) (fun k => if k = l' then m l else m k) k → (k = l' ∧ Live s.H m l) ∨ (k ≠ l' ∧ k ≠ l ∧ Live s.H m k) := fun k ⟨o', g1, g2, g3⟩ => by
    have g3 : (if k = l' then m l else m k).2 ≠ 0 := g3
    rw [hval] at g1
    by_cases e : k = l'
    · rw [if_pos e] at g1 g3
      exact .inl ⟨e, _, hl, by simp, g3⟩
    · rw [if_neg e] at g1 g3
      by_cases e' : k = l
      · rw [if_pos e'] at g1
        exact absurd (Option.some.inj g1).symm g2
      · rw [if_neg e'] at g1
        exact .inr ⟨e, e', o', g1, g2, g3⟩
  refine { df := h.df, vsz := h.vsz, val := fun t => (h.val t).keep (fun _ h => h) (fun _ _ => rfl) hU hm, heap := ⟨fun k ok hk => ?_, fun k k' hk hk' e => ?_, fun k hk => ?_⟩, own := fun k hk => ?_, ext := fun k hk => hU k (h.ext k hk), mfix := fun k hk => (hm k (h.ext k hk)).trans (h.mfix k hk), frz := h.frz, keep := h.keep, size := h.size, os := h.os, tape := h.tape, output := h.output }
  · have hk : upd (upd s.H l .dead) l' (.cells T sz xs) k = some ok := hk
    show OR w F (upd (upd s.H l .dead) l' (.cells T sz xs)) (fun k => if k = l' then m l else m k) k ok
    rw [hval] at hk
    by_cases e : k = l'
    · rw [if_pos e] at hk
      obtain rfl := Option.some.inj hk
      exact (h.heap.obj l _ hl).keep (fun _ h => h) (fun _ _ => rfl) hU hm (if_pos e) (fun _ _ => rfl)
    · rw [if_neg e] at hk
      by_cases e' : k = l
      · rw [if_pos e'] at hk
        obtain rfl := Option.some.inj hk
        trivial
      · rw [if_neg e'] at hk
        exact (h.heap.obj k ok hk).keep (fun _ h => h) (fun _ _ => rfl) hU hm (if_neg e) (fun _ _ => rfl)
  · rcases hLive k hk with ⟨e1, k1⟩ | ⟨e1, e1', k1⟩ <;> rcases hLive k' hk' with ⟨e2, k2⟩ | ⟨e2, e2', k2⟩
    · rw [e1, e2]
    · simp only [e1, e2, if_true, if_false] at e
      exact absurd (h.heap.inj l k' k1 k2 e).symm e2'
    · simp only [e1, e2, if_true, if_false] at e
      exact absurd (h.heap.inj k l k1 k2 e) e1'
    · simp only [e1, e2, if_false] at e
      exact h.heap.inj k k' k1 k2 e
  · rcases hLive k hk with ⟨e1, k1⟩ | ⟨e1, e1', k1⟩
    · simp only [e1, if_true]; exact h.heap.old l k1
    · simp only [e1, if_false]; exact h.heap.old k k1
  · rcases hLive k hk with ⟨e1, k1⟩ | ⟨e1, e1', k1⟩
    · simp only [e1, if_true]; exact h.own l k1
    · simp only [e1, if_false]; exact h.own k k1

/-- less is known: some names are dead, some slots forgotten -/
def HLe (H1 H : Heap) : Prop := ∀ l, H1 l = H l ∨ H1 l = some .dead
def FS.le (s1 s : FS) : Prop := s1.vars.length = s.vars.length ∧ (∀ t, s1.get t = .undef ∨ s1.get t = s.get t) ∧ HLe s1.H s.H
theorem RelX.weaken {s1 : FS} (h : RelX X F m s a w) (hl : s1.le s) : RelX X F m s1 a w := by
  obtain ⟨hv, hg, hH⟩ := hl
  have hU : ∀ k, s.H k ≠ none → s1.H k ≠ none := fun k hk => by rcases hH k with e | e <;> rw [e] <;> simp [hk]
  have hLive : ∀ k, Live s1.H m k → Live s.H m k := fun k ⟨o, g1, g2, g3⟩ => by
    rcases hH k with e | e
    · exact ⟨o, e ▸ g1, g2, g3⟩
    · rw [e] at g1; exact absurd (Option.some.inj g1).symm g2
  refine { h with
    vsz := by rw [hv]; exact h.vsz
    val := fun t => ?_
    heap := ⟨fun l o ho => ?_, fun k k' hk hk' e => h.heap.inj k k' (hLive k hk) (hLive k' hk') e, fun k hk => h.heap.old k (hLive k hk)⟩
    own := fun k hk => h.own k (hLive k hk)
    ext := fun k hk => hU k (h.ext k hk) }
  · rcases hg t with e | e
    · rw [e]; exact .undef _
    · rw [e]; exact (h.val t).keep (fun _ h => h) (fun _ _ => rfl) hU (fun _ _ => rfl)
  · rcases hH l with e | e
    · exact (h.heap.obj l o (e ▸ ho)).keep (fun _ h => h) (fun _ _ => rfl) hU (fun _ _ => rfl) rfl (fun _ _ => rfl)
    · rw [e] at ho
      obtain rfl := Option.some.inj ho
      trivial
theorem Rel.weaken {s1 : FS} (h : Rel X c s a w) (hl : s1.le s) : Rel X c s1 a w := by
  obtain ⟨hN, F, m, h1, h2, h3⟩ := h
  exact ⟨hN, F, m, h1, h2, h3.weaken hl⟩
end
end Go.FM
