/- One of the texts of a proof by an abstract machine over the model. -/
import Derived.Test.YthlhjepijodemaaAmN
set_option linter.unusedSimpArgs false
set_option linter.unusedVariables false
namespace Go.AM
open Go

mutual
theorem RV.lt {w : World} {F : Nat → Prop} {x : AV} {v : Value} {b : List Nat} (h : RV w F x v b) : ∀ y ∈ b, y < w.heap.size :=
  match h with
  | .undef _ | .int .. | .bool _ | .str _ | .fn _ | .nils _ | .list .. | .own0 .. | .ref .. => fun y hy => by cases hy
  | .own sz xs g cap c T bs hg hl hn hc h => fun y hy => by
    rcases List.mem_cons.1 hy with rfl | hy
    · exact (Array.getElem?_eq_some_iff.1 hg).1
    · exact RVs.lt h y hy
  | .agg cs vs bs h => RVs.lt h
  | .tup cs vs bs h => RVs.lt h
  | .box cs g c T bs hg h => fun y hy => by
    rcases List.mem_cons.1 hy with rfl | hy
    · exact (Array.getElem?_eq_some_iff.1 hg).1
    · exact RVs.lt h y hy
theorem RVs.lt {w : World} {F : Nat → Prop} {xs : List AV} {vs : List Value} {b : List Nat} (h : RVs w F xs vs b) : ∀ y ∈ b, y < w.heap.size :=
  match h with
  | .nil => fun y hy => by cases hy
  | .cons _ _ _ _ _ _ h hs => fun y hy => by
    rcases List.mem_append.1 hy with hy | hy
    · exact RV.lt h y hy
    · exact RVs.lt hs y hy
end

structure Ctx where
  w0 : World
  A0 : List Nat
  ps : List (Nat × Value)
  F0 : Nat → Prop
def Rel (X : Ctx) (c : Cfg) (s : St) (a : Act) (w : World) : Prop :=
  a.tmps.size = c.N ∧ (∀ y ∈ X.ps, y.1 ∈ c.pins) ∧ ∃ F bs fr, (∀ y, X.F0 y → F y) ∧ (∀ y, F y → X.F0 y ∨ y ∈ X.A0 ∨ X.w0.heap.size ≤ y) ∧ RelX X.w0 X.A0 X.ps F bs fr s a w

theorem size_put (a : Act) (d : Option Tmp) (v : Value) : (a.put d v).tmps.size = a.tmps.size := by cases d <;> simp [Act.put]

/-! ### one operation -/
def aStepF (P : Program) (c : Cfg) (o : Oper) (s : St) : Option St := match o.op with
  | .move x => aMove P c o x s
  | .assign x => aAssign P c o x s
  | .pick x y z => aPick P c o x y z s
  | .binOp op t x y _ => aBinOp P c o op t x y s
  | .unOp op t x => aUnOp P c o op t x s
  | .convert a b x => aConvert P c o a b x s
  | .extract x i => aExtract P c o x i s
  | .alloc t => aAlloc P c o t s
  | .box t x => aBox P c o t x s
  | .build t parts => aBuild P c o t parts s
  | .fieldAddr t x f => aField P c o t x f s
  | .load t x => aLoad P c o t x s
  | .store t ad x => aStore P o t ad x s
  | .indexAddr t x i => aIndex P c o t x i s
  | .call { callee := .builtin .len, args := ⟨[x]⟩, argTypes := ⟨[t]⟩ } => aLen P c o t x s
  | .call { callee := .builtin .min, args, argTypes } => aMin P c o args argTypes s
  | _ => none
theorem aStepF_ok {P : Program} {c : Cfg} {o : Oper} {s s' : St} (hs : aStepF P c o s = some s') : Snd P c o s s' := by
  unfold aStepF at hs
  split at hs
  · exact aMove_ok hs ‹_›
  · exact aAssign_ok hs ‹_›
  · exact aPick_ok hs ‹_›
  · exact aBinOp_ok hs ‹_›
  · exact aUnOp_ok hs ‹_›
  · exact aConvert_ok hs ‹_›
  · exact aExtract_ok hs ‹_›
  · exact aAlloc_ok hs ‹_›
  · exact aBox_ok hs ‹_›
  · exact aBuild_ok hs ‹_›
  · exact aField_ok hs ‹_›
  · exact aLoad_ok hs ‹_›
  · exact aStore_ok hs ‹_›
  · exact aIndex_ok hs ‹_›
  · exact aLen_ok hs ‹_› rfl
  · exact aMin_ok hs ‹_›
  · cases hs

theorem step_wp {P : Program} {X : Ctx} {c : Cfg} {o : Oper} {s s' : St} {a : Act} {w : World} {K : Act → World → Prop} {Q : Exit → Act → World → Prop} (hs : Snd P c o s s') (h : Rel X c s a w)
    (hK : ∀ v w', Rel X c s' (a.put o.dst v) w' → K (a.put o.dst v) w') : o.wp P a w K Q := by
  obtain ⟨hN, hp, F, bs, fr, h1, h2, h⟩ := h
  obtain ⟨bs', fr', v, w', hrun, h'⟩ := hs X.w0 X.A0 X.ps F bs fr a w hN hp h
  have := hK v w' ⟨by rw [size_put]; exact hN, hp, F, bs', fr', h1, h2, h'⟩
  unfold Oper.wp
  rcases hrun with hrun | ⟨hrun, rfl⟩
  · rw [hrun]; exact this
  · rw [hrun]; exact this

/-! ### a call -/
def fnOk (P : Program) (f : FuncId) : Bool := match P.funcs[f]? with
  | some fn => fn.name != "runtime.NumGoroutine" && fn.body.isSome
  | none => false
def plainL (P : Program) (s : St) (l : List (Operand × TypeId)) : Bool := l.all fun x => (ro P s x.2 x.1).v.pure
def zipT (args : Array Operand) (ts : Array TypeId) : List (Operand × TypeId) := args.toList.zip ts.toList
structure CallR (P : Program) (c : Cfg) (o : Oper) (f : FuncId) (args : Array Operand) (ts : Array TypeId) (s s' : St) : Prop where
  fn : fnOk P f = true
  len : args.size = ts.size
  go : ∃ A r args', conts P s (zipT args ts) = some A ∧ OC P f (fzs A) r args' ∧ (scalar r || plainL P s (zipT args ts)) = true ∧ putD c o r s = some s'

theorem plainL_ok {P : Program} {w0 w : World} {A0 : List Nat} {ps : List (Nat × Value)} {F : Nat → Prop} {bs : Nat → List Nat} {fr : List Nat} {s : St} {a : Act} (h : RelX w0 A0 ps F bs fr s a w) :
    ∀ (l : List (Operand × TypeId)) (vs : List AV), conts P s l = some vs → plainL P s l = true → RVs w F vs (l.map fun x => a.eval x.1) []
  | [], vs, hv, _ => by simp [conts] at hv; subst hv; exact .nil
  | (x, t) :: r, vs, hv, hp => by
    simp only [conts, Option.bind_eq_some_iff, Option.map_eq_some_iff] at hv
    obtain ⟨v, hv, vs', hvs, rfl⟩ := hv
    simp only [plainL, List.all_cons, Bool.and_eq_true] at hp
    have hH := pure_nH hp.1
    have hc : (ro P s t x).v = v := by
      unfold RO.cont at hv
      split at hv
      · rename_i q p hq; rw [hq] at hH; cases hH
      · exact (seen_some hv).1
    obtain ⟨b, hb, _⟩ := ro_plain h t x (P := P) hH
    have := hb.pure_nil hp.1
    subst this
    rw [hc] at hb
    exact RVs.cons v _ [] _ _ [] hb (plainL_ok h r vs' hvs hp.2)

theorem call_wp {P : Program} {X : Ctx} {c : Cfg} {o : Oper} {f : FuncId} {args : Array Operand} {ts : Array TypeId} {s s' : St} {a : Act} {w : World} {K : Act → World → Prop} {Q : Exit → Act → World → Prop}
    (hr : CallR P c o f args ts s s') (ho : o.op = .call { callee := .value (.func f), args := args, argTypes := ts }) (h : Rel X c s a w)
    (hK : ∀ v w', Rel X c s' (a.put o.dst v) w' → K (a.put o.dst v) w') : o.wp P a w K Q := by
  obtain ⟨hN, hp, F, bs, fr, h1, h2, h⟩ := h
  obtain ⟨hfn, hlen, A, r, args', hA, hoc, hsc, hput⟩ := hr
  have hmap : (zipT args ts).map (fun x => a.eval x.1) = (args.map a.eval).toList := by
    unfold zipT
    rw [Array.toList_map]
    have hl : args.toList.length ≤ ts.toList.length := by simp; omega
    rw [show (fun x : Operand × TypeId => a.eval x.1) = a.eval ∘ Prod.fst from rfl, ← List.map_map, List.map_fst_zip hl]
  have hrun : (execOp a.eval o).run P w = .ok (.enter f (args.map a.eval)) w := by
    unfold fnOk at hfn
    split at hfn
    · rename_i fn hf
      simp only [Bool.and_eq_true, bne_iff_ne, ne_eq] at hfn
      have hb : ¬ fn.body = none := fun hh => by rw [hh] at hfn; simp at hfn
      simp [execOp, ho, resolve, Act.eval, Deferred.ofValue, invoke, callFunc, hf, hb, hfn.1]
    · cases hfn
  unfold Oper.wp
  rw [hrun, Oper.upon_enter]
  have key : ∀ (F1 : Nat → Prop), (∀ y, F y → F1 y) → (∀ y, F1 y → y < w.heap.size) → RVs w F1 (fzs A) (args.map a.eval).toList [] → (scalar r = true ∨ F1 = F) →
      Calls P f (args.map a.eval) w fun | .returned v, w'' => K (a.put o.dst v) w'' | .panicked chain, w'' => Q (.panic chain) a w'' | .outgrown, _ => LetsOut Q := by
    intro F1 hF1 hF2 hv hcase
    have := hoc w F1 (args.map a.eval).toList [] hF2 hv List.nodup_nil (by simp)
    rw [Array.toArray_toList] at this
    refine this.mono ?_
    rintro e w' ⟨v, F', b', br, rfl, g1, g2, g3, g4, g5, g6, g7, g8, g9, g10, g11⟩
    have hold : ∀ y, y < w.heap.size → w'.heap[y]? = w.heap[y]? := fun y hy => g8 y hy (by simp)
    rcases hcase with hsc | rfl
    · have hW : RelX X.w0 X.A0 X.ps F bs fr s a w' := h.world g7 (fun y hy _ => hold y hy) h.fnd (fun y hy => ⟨.inl hy, by have := (h.fown y hy).1; omega⟩) g9 g10 g11
      obtain ⟨bs', fr', h'⟩ := put_ok (b := []) hW hN hp (g4.scalars hsc) hput
      exact hK v w' ⟨by rw [size_put]; exact hN, hp, F, bs', fr', h1, h2, h'⟩
    · have hn5 := List.nodup_append.1 g5
      have hW : RelX X.w0 X.A0 X.ps F1 bs (br ++ fr) s a w' := h.world g7 (fun y hy _ => hold y hy) (by
        rw [List.nodup_append]
        refine ⟨hn5.2.1, h.fnd, fun p hp q hq e => ?_⟩
        have a1 := (g6 p (by simp [hp])).2.2
        have a2 := (h.fown q hq).1
        simp at a1; omega) (fun y hy => by
        rcases List.mem_append.1 hy with hy | hy
        · have := g6 y (by simp [hy])
          exact ⟨.inr (by simpa using this.2.2), this.1⟩
        · exact ⟨.inl hy, by have := (h.fown y hy).1; omega⟩) g9 g10 g11
      have hG : RelX X.w0 X.A0 X.ps F' bs (br ++ fr) s a w' := hW.grow g1 (fun y hy => (g2 y hy).2) (fun t y hy hF => by
        have a1 := h.own t y hy
        rcases (g2 y hF).1 with h | h | h
        · exact a1.2.1 h
        · cases h
        · omega) hW.fnd (fun y hy => ⟨hy, fun hF => by
        rcases List.mem_append.1 hy with hy | hy
        · exact (g6 y (by simp [hy])).2.1 hF
        · have a1 := h.fown y hy
          rcases (g2 y hF).1 with h | h | h
          · exact a1.2.1 h
          · cases h
          · omega⟩)
      obtain ⟨bs', fr', h'⟩ := put_ok hG hN hp g4 hput
      refine hK v w' ⟨by rw [size_put]; exact hN, hp, F', bs', fr', fun y hy => g1 y (h1 y hy), fun y hy => ?_, h'⟩
      rcases (g2 y hy).1 with h' | h' | h'
      · exact h2 y h'
      · cases h'
      · exact .inr (.inr (by have := h.size; omega))
  rw [Bool.or_eq_true] at hsc
  rcases hsc with hsc | hpl
  · obtain ⟨b, hb⟩ := conts_ok h _ _ hA
    rw [hmap] at hb
    exact key (fun y => F y ∨ y ∈ b) (fun y hy => .inl hy) (fun y hy => by
      rcases hy with hy | hy
      · exact h.frz y hy
      · exact hb.lt y hy) hb.fzs (.inl hsc)
  · have hb := plainL_ok h _ _ hA hpl
    rw [hmap] at hb
    exact key F (fun _ h => h) h.frz (hb.fzs.keep (fun y hy => by simpa using hy) fun _ _ => rfl) (.inr rfl)

/-! ### a region -/
def guardV (ops : Array Oper) (o : Oper) (s : St) : Option Bool := match o.guard with
  | none => some true
  | some (j, want) => match (ops[j]?).bind (·.dst) with
    | some d => match s.get d with
      | .bool b => some (b == want)
      | .tup [] => some false
      | _ => none
    | none => none
def callee? (o : Oper) : Option (FuncId × Array Operand × Array TypeId) := match o.op with
  | .call { callee := .value (.func f), args, argTypes } => some (f, args, argTypes)
  | _ => none
def awOps (P : Program) (c : Cfg) (ops : Array Oper) : List Oper → (St → Prop) → St → Prop
  | [], K, s => K s
  | o :: rest, K, s => match guardV ops o s with
    | some true => match callee? o with
      | some (f, args, ts) => ∃ s', CallR P c o f args ts s s' ∧ awOps P c ops rest K s'
      | none => match aStepF P c o s with
        | some s' => awOps P c ops rest K s'
        | none => False
    | some false => match putD c o (.tup []) s with
      | some s' => awOps P c ops rest K s'
      | none => False
    | none => False

theorem guard_ok {X : Ctx} {c : Cfg} {ops : Array Oper} {o : Oper} {s : St} {a : Act} {w : World} {b : Bool} (h : Rel X c s a w) (hg : guardV ops o s = some b) : Region.wanted o (yielded ops a.tmps) = b := by
  obtain ⟨_, _, F, bs, fr, _, _, h⟩ := h
  unfold guardV at hg
  unfold Region.wanted
  split at hg
  · rename_i hn; rw [hn]; simpa using hg
  · rename_i j want hj
    rw [hj]
    simp only
    split at hg
    · rename_i d hd
      split at hg
      · rename_i b' hb'
        have hv := h.val d
        rw [hb'] at hv
        have hv' : RV w F (.bool b') (a.tmps.getD d undef) (bs d) := hv
        generalize hvv : a.tmps.getD d undef = v at hv'
        generalize bs d = l at hv'
        cases hv'
        have : a.tmps[d]? = some (.bool b') := by
          rw [Array.getD_eq_getD_getElem?] at hvv
          cases hh : a.tmps[d]? with
          | none => rw [hh] at hvv; simp [undef] at hvv
          | some u => rw [hh] at hvv; simpa using hvv
        have hy : yielded ops a.tmps j = some b' := by
          unfold yielded
          rw [hd, Option.bind_some, this]
        rw [hy]
        simpa using hg
      · rename_i hb'
        obtain rfl : false = b := by simpa using hg
        have hv := h.val d
        rw [hb'] at hv
        have hv' : RV w F (.tup []) (a.tmps.getD d undef) (bs d) := hv
        generalize hvv : a.tmps.getD d undef = v at hv'
        generalize bs d = l at hv'
        cases hv' with
        | tup _ vs _ hvs =>
        cases hvs
        have hy : yielded ops a.tmps j = none := by
          unfold yielded
          rw [hd, Option.bind_some]
          rw [Array.getD_eq_getD_getElem?] at hvv
          cases hh : a.tmps[d]? with
          | none => rfl
          | some u => rw [hh] at hvv; simp only [Option.getD_some] at hvv; subst hvv; rfl
        rw [hy]
        rfl
      · cases hg
    · cases hg

theorem awOps_ok {P : Program} {X : Ctx} {c : Cfg} {ops : Array Oper} {Q : Exit → Act → World → Prop} {K : St → Prop} (hK : ∀ s a w, Rel X c s a w → K s → Q .normal a w) :
    ∀ (l : List Oper) (s : St) (a : Act) (w : World), Rel X c s a w → awOps P c ops l K s → wpList P ops Q l a w
  | [], s, a, w, h, hs => hK s a w h hs
  | o :: rest, s, a, w, h, hs => by
    have ih := awOps_ok (P := P) (ops := ops) hK rest
    simp only [awOps] at hs
    unfold wpList
    split at hs
    · rename_i hg
      rw [if_pos (guard_ok h hg)]
      left
      split at hs
      · rename_i f args ts hc
        obtain ⟨s', hr, hs⟩ := hs
        have ho : o.op = .call { callee := .value (.func f), args := args, argTypes := ts } := by
          unfold callee? at hc
          split at hc
          · rename_i h; rw [h]; simp only [Option.some.injEq, Prod.mk.injEq] at hc; obtain ⟨rfl, rfl, rfl⟩ := hc; rfl
          · cases hc
        exact call_wp hr ho h fun v w' h' => ih s' _ _ h' hs
      · split at hs
        · rename_i s' hst
          exact step_wp (aStepF_ok hst) h fun v w' h' => ih s' _ _ h' hs
        · exact hs.elim
    · rename_i hg
      rw [if_neg (by rw [guard_ok h hg]; simp)]
      split at hs
      · rename_i s' hst
        obtain ⟨hN, hp, F, bs, fr, h1, h2, hR⟩ := h
        obtain ⟨bs', fr', h'⟩ := put_ok (b := []) (v := undef) hR hN hp (RV.tup [] [] [] .nil) hst
        exact ih s' _ _ ⟨by rw [size_put]; exact hN, hp, F, bs', fr', h1, h2, h'⟩ hs
      · exact hs.elim
    · exact hs.elim
end Go.AM
