/- One of the texts of a proof by an abstract machine over the model. -/
import Derived.Test.YtmhkendlllmodaaGreatDoorFmL
set_option linter.unusedSimpArgs false
set_option linter.unusedVariables false
namespace Go.FM
open Go

/-! ### nil as an empty read-only slice -/
mutual
def asR : FV → FV → Prop
  | .nils, r => r = .nils ∨ ∃ sz, r = .list sz []
  | .agg cs, r => ∃ ds, r = .agg ds ∧ asRs cs ds
  | .tup cs, r => ∃ ds, r = .tup ds ∧ asRs cs ds
  | v, r => r = v
def asRs : List FV → List FV → Prop
  | [], l => l = []
  | x :: xs, l => ∃ y ys, l = y :: ys ∧ asR x y ∧ asRs xs ys
end
section
variable {w w' : World} {F F' : Nat → Prop} {U U' : Loc → Prop} {m m' : Loc → Nat × Nat} {P : Program}
mutual
theorem RF.asR {x y : FV} {v : Value} (h : RF w F U m x v) (hr : asR x y) : RF w F U m y v := by
  cases h with
  | nils =>
    rcases hr with rfl | ⟨sz, rfl⟩
    · exact .nils
    · exact .list sz [] none 0 [] (by simp) (by simp) (by simp) .nil
  | agg cs vs h =>
    obtain ⟨ds, rfl, hds⟩ := hr
    exact .agg ds vs (RFs.asR h hds)
  | tup cs vs h =>
    obtain ⟨ds, rfl, hds⟩ := hr
    exact .tup ds vs (RFs.asR h hds)
  | undef v => have e : y = .undef := hr; subst e; exact .undef v
  | int k n => have e : y = .int k n := hr; subst e; exact .int k n
  | bool b => have e : y = .bool b := hr; subst e; exact .bool b
  | str s => have e : y = .str s := hr; subst e; exact .str s
  | list sz xs A cap vs hl hc hm h => have e : y = .list sz xs := hr; subst e; exact .list sz xs A cap vs hl hc hm h
  | ref cs a vs hF hm h => have e : y = .ref cs := hr; subst e; exact .ref cs a vs hF hm h
  | ptr l sz i off hu => have e : y = .ptr l sz i off := hr; subst e; exact .ptr l sz i off hu
  | nilp => have e : y = .nilp := hr; subst e; exact .nilp
  | sl l sz off len cap o hu hc ho hs => have e : y = .sl l sz off len := hr; subst e; exact .sl l sz off len cap o hu hc ho hs
  | sl0 l sz off hu h0 => have e : y = .sl l sz off 0 := hr; subst e; exact .sl0 l sz off hu h0
  | mp l hu => have e : y = .mp l := hr; subst e; exact .mp l hu
  | nilm => have e : y = .nilm := hr; subst e; exact .nilm
  | clo f a b us vs h1 h2 => have e : y = .clo f a b := hr; subst e; exact .clo f a b us vs h1 h2
  | nilf => have e : y = .nilf := hr; subst e; exact .nilf
  | emp A => have e : y = .emp := hr; subst e; exact .emp A
theorem RFs.asR {xs ys : List FV} {vs : List Value} (h : RFs w F U m xs vs) (hr : asRs xs ys) : RFs w F U m ys vs := by
  cases h with
  | nil => have e : ys = [] := hr; subst e; exact .nil
  | cons a v as vs h hs =>
    obtain ⟨y, ys', rfl, h1, h2⟩ := hr
    exact .cons y v ys' vs (RF.asR h h1) (RFs.asR hs h2)
end

/-! ### pure functions -/
def PC (P : Program) (G : List (Nat × List Value)) (f : FuncId) (args : List FV) (r : FV) : Prop := FC P G f args noH r noH
def PEnd (P : Program) (res : List ResultVar) (r : FV) (e : Exit) (s : FS) : Prop :=
  (e = .normal ∨ e = .ret) ∧ ∃ s1, Wk s1 s ∧ ∃ l, resL P s1 res = some l ∧ ∃ n y, frz s1.H n (tupOf l) = some y ∧ asR y r
theorem heapR_noH (w : World) (F : Nat → Prop) (m : Loc → Nat × Nat) : HeapR w F m noH :=
  ⟨fun _ _ h => (by cases h), fun _ _ ⟨_, h, _⟩ => (by cases h), fun _ ⟨_, h, _⟩ => (by cases h)⟩
theorem PC_of {f : FuncId} {fn : Func} {code : Code} {c : Cfg} {nv : Nat} {args : List FV} {r : FV} (hf : P.funcs[f]? = some fn) (hb : fn.body = some code) (hN : c.N = fn.ntmps)
    (hargs : args.length ≤ nv) (hnv : nv ≤ fn.ntmps) (h : wCode P c code (PEnd P fn.results.toList r) (FS.init nv args noH)) : PC P c.G f args r := by
  intro w F m vs hF hG hv hH
  refine (fn_run hf hb hN hargs hnv h (fun _ h => absurd rfl h) w F m vs hF hG hv hH).mono ?_
  rintro e w' ⟨v, s1, l, F', m', a, rfl, ⟨n, y, hy, hr⟩, k1, k2, hR, hv2⟩
  have hnol : ∀ b, ¬ Ctx.lent ⟨w, F, noH, m⟩ b := fun b ⟨l, ⟨_, h, _⟩, _⟩ => by cases h
  obtain ⟨g1, _⟩ := (frz_ok (m' := m') hR.heap n).1 _ _ _ hy hv2
  refine ⟨v, frzF F' s1.H m', m', rfl, fun y hy => .inl (k1 y hy), fun y hy => ?_, fun l hl => absurd rfl hl, ?_, heapR_noH _ _ _, fun l ⟨_, h, _⟩ => (by cases h), hR.size, fun y hy _ => hR.keep y hy (hnol y), hR.os, hR.tape, hR.output⟩
  · rcases hy with hy | ⟨l, hl, rfl⟩
    · exact ⟨k2 y hy, hR.frz y hy⟩
    · exact ⟨.inr ((hR.own l hl).resolve_left (hnol _)), (hR.heap.old l hl).1⟩
  · exact (g1.asR hr).keep (fun _ h => h) (fun _ _ => rfl) (fun _ h => h.elim) (fun _ h => h.elim)
/-- a pure function over read-only things, called over whatever blocks -/
theorem PC.lift {G : List (Nat × List Value)} {f : FuncId} {args : List FV} {r : FV} (h : PC P G f args r) (ha : nls args = true) (H : Heap) : FC P G f args H r H := by
  intro w F m vs hF hG hv hH
  refine (h w F m vs hF hG (hv.nameless ha _ _) (heapR_noH _ _ _)).mono ?_
  rintro e w' ⟨v, F', m', he, k1, k2, _, k4, _, _, k7, k8, k9, k10, k11⟩
  have hold : ∀ y, y < w.heap.size → w'.heap[y]? = w.heap[y]? := fun y hy => k8 y hy fun l ⟨_, h, _⟩ => by cases h
  have hR : HeapR w' F' m H := by
    have hF' : ∀ b, F b → w'.heap[b]? = w.heap[b]? := fun b hb => hold b (hF b hb)
    refine ⟨fun l o ho => ?_, hH.inj, fun l hl => ⟨by have := (hH.old l hl).1; omega, fun hFl => ?_⟩⟩
    · exact (hH.obj l o ho).keep k1 hF' (fun _ h => h) (fun _ _ => rfl) rfl (fun hd h0 => hold _ (hH.old l ⟨o, ho, hd, h0⟩).1)
    · have := hH.old l hl
      rcases (k2 _ hFl).1 with h1 | h1
      · exact this.2 h1
      · omega
  exact ⟨v, F', m, he, k1, k2, fun l hl => ⟨rfl, hl⟩, k4.keep (fun _ h => h) (fun _ _ => rfl) (fun l hl => absurd rfl hl) (fun l hl => absurd rfl hl), hR, fun l hl => .inl ⟨l, hl, rfl⟩, k7, fun y hy _ => hold y hy, k9, k10, k11⟩

/-- a value that leads to no memory -/
def sca : FV → Bool
  | .int .. | .bool _ | .str _ => true
  | .tup cs => cs.all fun | .int .. | .bool _ | .str _ => true | _ => false
  | .agg cs => cs.all fun | .int .. | .bool _ | .str _ => true | _ => false
  | _ => false
theorem RFs.scas {cs : List FV} {vs : List Value} (h : RFs w F U m cs vs) (hs : (cs.all fun | .int .. | .bool _ | .str _ => true | _ => false) = true) (w' : World) (F' : Nat → Prop) (U' : Loc → Prop) (m' : Loc → Nat × Nat) : RFs w' F' U' m' cs vs := by
  match h with
  | .nil => exact .nil
  | .cons a v as vs h hs' =>
    simp only [List.all_cons, Bool.and_eq_true] at hs
    have h1 : RF w' F' U' m' a v := by cases h <;> first | (simp at hs; done) | exact RF.int _ _ | exact RF.bool _ | exact RF.str _
    exact RFs.cons a v as vs h1 (RFs.scas hs' hs.2 w' F' U' m')
theorem RF.scas {r : FV} {v : Value} (h : RF w F U m r v) (hs : sca r = true) (w' : World) (F' : Nat → Prop) (U' : Loc → Prop) (m' : Loc → Nat × Nat) : RF w' F' U' m' r v := by
  cases h <;> first | (simp [sca] at hs; done) | exact RF.int _ _ | exact RF.bool _ | exact RF.str _ | exact RF.agg _ _ (RFs.scas ‹_› hs _ _ _ _) | exact RF.tup _ _ (RFs.scas ‹_› hs _ _ _ _)
/-- what is made here may be lent to a pure function that answers with numbers -/
theorem PC.lend {G : List (Nat × List Value)} {f : FuncId} {args args1 args2 : List FV} {r : FV} {H : Heap} {n : Nat} (hz : frzs H n args = some args1) (ha : asRs args1 args2) (h : PC P G f args2 r) (hs : sca r = true) : FC P G f args H r H := by
  intro w F m vs hF hG hv hH
  obtain ⟨g1, _⟩ := (frz_ok (m' := m) hH n).2.1 _ _ _ hz hv
  have g2 := (g1.asR ha).keep (w' := w) (F' := frzF F H m) (U' := fun l => noH l ≠ none) (m' := m) (fun _ h => h) (fun _ _ => rfl) (fun _ h => h.elim) (fun _ h => h.elim)
  refine (h w (frzF F H m) m vs (fun y hy => ?_) (hG.mono fun _ _ h => .inl h) g2 (heapR_noH _ _ _)).mono ?_
  · rcases hy with hy | ⟨l, hl, rfl⟩
    · exact hF y hy
    · exact (hH.old l hl).1
  · rintro e w' ⟨v, F', m', he, k1, k2, _, k4, _, _, k7, k8, k9, k10, k11⟩
    have hold : ∀ y, y < w.heap.size → w'.heap[y]? = w.heap[y]? := fun y hy => k8 y hy fun l ⟨_, h, _⟩ => by cases h
    have hF' : ∀ b, F b → w'.heap[b]? = w.heap[b]? := fun b hb => hold b (hF b hb)
    have hR : HeapR w' F m H := by
      refine ⟨fun l o ho => ?_, hH.inj, fun l hl => ⟨by have := (hH.old l hl).1; omega, (hH.old l hl).2⟩⟩
      exact (hH.obj l o ho).keep (fun _ h => h) hF' (fun _ h => h) (fun _ _ => rfl) rfl (fun hd h0 => hold _ (hH.old l ⟨o, ho, hd, h0⟩).1)
    exact ⟨v, F, m, he, fun _ h => h, fun y hy => ⟨.inl hy, by have := hF y hy; omega⟩, fun l hl => ⟨rfl, hl⟩, k4.scas hs _ _ _ _, hR, fun l hl => .inl ⟨l, hl, rfl⟩, k7, fun y hy _ => hold y hy, k9, k10, k11⟩
end
end Go.FM
