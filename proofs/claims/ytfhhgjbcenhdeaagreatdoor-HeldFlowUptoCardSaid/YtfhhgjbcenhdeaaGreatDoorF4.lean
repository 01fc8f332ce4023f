/- Parts of the proof. -/
import Derived.Test.YtfhhgjbcenhdeaaGreatDoorF3
import Derived.StillTail
import Derived.Below
set_option linter.unusedSimpArgs false
set_option linter.unusedVariables false
namespace Go.FM
open Go
def ext (H A : Heap) : Heap := fun l => match A l with
 | some o => some o
 | none => H l
def noH : Heap := fun _ => none
theorem a1l (H : Heap) : ext H noH = H := rfl
section
variable {P : Program} {X : Ctx} {c : Cfg} {w w' : World} {F F' : Nat -> Prop} {m m' : Loc -> Nat × Nat} {s s' : Fs} {a a' : Act} {o : Oper}
def HSub (H1 H : Heap) : Prop := ∀ l o, H1 l = some o -> H l = some o
theorem HSub.refl (H : Heap) : HSub H H := fun _ _ h => h
theorem HSub.ne {H1 H : Heap} (h : HSub H1 H) {l : Loc} (hl : H1 l ≠ none) : H l ≠ none := by
 obtain ⟨o, ho⟩ := Option.ne_none_iff_exists'.1 hl
 rw [h l o ho]; simp
theorem HeapR.sub {H1 H : Heap} (hs : HSub H1 H) (hU : ∀ l, H l ≠ none -> H1 l ≠ none \/ True) (h : HeapR w F m H) (hv : ∀ l o, H1 l = some o -> OR w F H1 m l o) : HeapR w F m H1 :=
 ⟨hv, fun l l' hl hl' e => h.inj l l' (by obtain ⟨o, g1, g2⟩ := hl; exact ⟨o, hs l o g1, g2⟩) (by obtain ⟨o, g1, g2⟩ := hl'; exact ⟨o, hs l' o g1, g2⟩) e,
  fun l hl => h.old l (by obtain ⟨o, g1, g2⟩ := hl; exact ⟨o, hs l o g1, g2⟩)⟩
theorem d0i {H1 H : Heap} (hs : HSub H1 H) {t : TypeId} {x y : FV} (h : b4f P H1 t x = some y) : b4f P H t x = some y := by
 unfold b4f at h ⊢
 split at h
 case h_3 => exact h
 . cases h
 . split at h
   . rename_i l sz i off
     split at h
     . rename_i T sz' xs hl
       simp only [hs _ _ hl]
       exact h
     . cases h
   . exact h
   . cases h
 . split at h
   . rename_i l sz i off
     split at h
     . rename_i T sz' xs hl
       simp only [hs _ _ hl]
       exact h
     . cases h
   . exact h
   . cases h
theorem d6d {H1 H : Heap} (hs : HSub H1 H) {t : TypeId} {x y : FV} (h : fLen P H1 t x = some y) : fLen P H t x = some y := by
 unfold fLen at h ⊢
 split at h
 case h_6 =>
  split at h
  . rename_i hu hl
    simp only [hu, hs _ _ hl]
    exact h
  . cases h
 all_goals exact h
theorem d9o {H1 H : Heap} (hs : HSub H1 H) {ρ : Operand -> FV} {y : FV} (h : pv1 P H1 ρ o = some y) : pv1 P H ρ o = some y := by
 unfold pv1 at h ⊢
 split at h
 case h_10 => exact d0i hs h
 case h_14 => exact d6d hs h
 all_goals exact h
theorem d3e {H : Heap} {ρ ρ' : Operand -> FV} (h : ∀ x ∈ o.op.operands.toList, ρ' x = ρ x) : pv1 P H ρ' o = pv1 P H ρ o := by
 unfold pv1
 split
 case h_8 =>
  rename_i t parts ho
  rw [ho] at h
  have e : (parts.toList.map (·.2)).map ρ' = (parts.toList.map (·.2)).map ρ := List.map_congr_left fun x hx => h x (by simpa [Op.operands] using hx)
  rw [e]
 case h_12 =>
  rename_i t x lo hi ho
  rw [ho] at h
  simp only [Op.operands] at h
  rw [h x (by simp)]
  have e1 : lo.map ρ' = lo.map ρ := by cases lo with
   | none => rfl
   | some y => simp only [Option.map_some]; rw [h y (by simp)]
  have e2 : hi.map ρ' = hi.map ρ := by cases hi with
   | none => rfl
   | some y => simp only [Option.map_some]; rw [h y (by simp)]
  rw [e1, e2]
 case h_13 =>
  rename_i f first caps ho
  rw [ho] at h
  simp only [Op.operands] at h
  have e1 : first.toList.map ρ' = first.toList.map ρ := List.map_congr_left fun x hx => h x (by simp at hx ⊢; simp [hx])
  have e2 : caps.toList.map ρ' = caps.toList.map ρ := List.map_congr_left fun x hx => h x (by simp at hx ⊢; simp [hx])
  rw [e1, e2]
 all_goals first
  | rfl
  | (rename_i ho
     rw [ho] at h
     simp only [Op.operands, Call.operands] at h
     simp only [List.mem_cons, List.not_mem_nil, or_false, forall_eq_or_imp, forall_eq, List.nil_append, Array.toList_append, List.mem_append, false_or] at h
     first
      | rw [h]
      | rw [h.1, h.2]
      | rw [h.1, h.2.1, h.2.2]
      | (simp only [h])
      | (simp only [h.1, h.2]))
theorem d0h {H1 H : Heap} (hs : HSub H1 H) {t : TypeId} {x i y : FV} {ok : Bool} (h : b2s P H1 t x i ok = some y) : b2s P H t x i ok = some y := by
 unfold b2s at h ⊢
 split at h
 . cases h
 split at h
 case isFalse => cases h
 rename_i hk
 simp only [hk, if_true]
 split at h
 . split at h
   . rename_i hl
     simp only [hs _ _ hl]
     exact h
   . cases h
 . exact h
 . cases h
theorem c4p {H1 H : Heap} (hs : HSub H1 H) {it y : FV} (h : b3x H1 it = some y) : b3x H it = some y := by
 unfold b3x at h ⊢
 split at h
 case h_2 => cases h
 split at h
 case h_2 => cases h
 rename_i hl
 split at h
 case h_2 => cases h
 rename_i hk
 simp only [hs _ _ hl, hs _ _ hk]
 exact h
theorem d9m {H1 H : Heap} (hs : HSub H1 H) {ρ : Operand -> FV} {y : FV} (h : pv2 P H1 ρ o = some y) : pv2 P H ρ o = some y := by
 unfold pv2 at h ⊢
 split at h
 case h_1 => exact d0h hs h
 case h_9 => exact c4p hs h
 all_goals exact h
theorem d3d {H : Heap} {ρ ρ' : Operand -> FV} (h : ∀ x ∈ o.op.operands.toList, ρ' x = ρ x) : pv2 P H ρ' o = pv2 P H ρ o := by
 unfold pv2
 split
 case h_7 =>
  rename_i x xs ts ho
  rw [ho] at h
  simp only [Op.operands, Call.operands] at h
  rw [h x (by simp), List.map_congr_left fun y hy => h y (by simp [hy])]
 case h_8 =>
  rename_i x xs ts ho
  rw [ho] at h
  simp only [Op.operands, Call.operands] at h
  rw [h x (by simp), List.map_congr_left fun y hy => h y (by simp [hy])]
 case h_10 =>
  rename_i t parts ho
  rw [ho] at h
  have e : (parts.toList.map (·.2)).map ρ' = (parts.toList.map (·.2)).map ρ := List.map_congr_left fun x hx => h x (by simpa [Op.operands] using hx)
  unfold b3j
  rw [e]
 case h_11 =>
  rename_i t x lo hi mx ho
  rw [ho] at h
  simp only [Op.operands] at h
  rw [h x (by simp), h mx (by simp)]
  have e1 : lo.map ρ' = lo.map ρ := by cases lo with
   | none => rfl
   | some y => simp only [Option.map_some]; rw [h y (by simp)]
  have e2 : hi.map ρ' = hi.map ρ := by cases hi with
   | none => rfl
   | some y => simp only [Option.map_some]; rw [h y (by simp)]
  rw [e1, e2]
 all_goals first
  | rfl
  | (rename_i ho
     rw [ho] at h
     simp only [Op.operands, Call.operands] at h
     simp only [List.mem_cons, List.not_mem_nil, or_false, forall_eq_or_imp, forall_eq, List.nil_append, Array.toList_append, List.mem_append, false_or] at h
     first
      | rw [h]
      | rw [h.1, h.2]
      | (simp only [h])
      | (simp only [h.1, h.2]))
theorem d9n {H1 H : Heap} {ρ : Operand -> FV} {y : FV} (h : pv2 P H1 ρ o = some y) : pv1 P H ρ o = pv1 P H1 ρ o := by
 unfold pv2 at h
 split at h
 case h_12 => cases h
 case h_10 =>
  rename_i ho
  simp only [pv1, ho]
 all_goals
  rename_i ho
  simp only [pv1, ho]
theorem e6i {H1 H : Heap} (hs : HSub H1 H) {ρ : Operand -> FV} {y : FV} (h : pv P H1 ρ o = some y) : pv P H ρ o = some y := by
 unfold pv at h ⊢
 cases h1 : pv1 P H1 ρ o with
 | some z => rw [h1] at h; rw [d9o hs h1]; exact h
 | none =>
   rw [h1] at h
   rw [d9n h, h1]
   exact d9m hs h
theorem d9l {H : Heap} {ρ ρ' : Operand -> FV} (h : ∀ x ∈ o.op.operands.toList, ρ' x = ρ x) : pv P H ρ' o = pv P H ρ o := by
 unfold pv
 rw [d3e h, d3d h]
theorem c1r {H1 H : Heap} (hs : HSub H1 H) {sz : Nat} {x : FV} {r : List (List FV)} (h : srcA H1 sz x = some r) : srcA H sz x = some r := by
 unfold srcA at h ⊢
 split at h
 . exact h
 . exact h
 . exact h
 . split at h
   . rename_i hl
     simp only [hs _ _ hl]
     exact h
   . cases h
 . cases h
theorem e4n {H1 H : Heap} (hs : HSub H1 H) {nm : Loc} {ρ : Operand -> FV} {us : List (Loc × FO)} {v : FV} (h : wv P H1 nm ρ o = some (us, v)) (hf : ∀ u ∈ us, H u.1 = none) : wv P H nm ρ o = some (us, v) := by
 have bad : ∀ {l : Loc} {ob ob' : FO} {y : FV} {z : FV}, H1 l = some ob -> some ([(l, ob')], y) = some (us, z) -> False := fun {l ob ob' y z} hl he => by
  simp only [sE_, Prod.mk.injEq] at he
  obtain ⟨rfl, _⟩ := he
  have := hf (l, ob') (by simp)
  rw [hs _ _ hl] at this
  cases this
 have new : ∀ {l : Loc} {ob' : FO} {y : FV} {z : FV}, some ([(l, ob')], y) = some (us, z) -> H l = none := fun {l ob' y z} he => by
  simp only [sE_, Prod.mk.injEq] at he
  obtain ⟨rfl, _⟩ := he
  exact hf (l, ob') (by simp)
 unfold wv at h ⊢
 split at h
 . unfold b3t at h ⊢
   split at h
   case h_2 => cases h
   split at h
   case isFalse => cases h
   have hn : H nm = none := by
    split at h
    . exact new h
    . exact new h
   simp only [hn, Option.isNone_none, if_true]
   exact h
 . unfold wBox at h ⊢
   split at h
   case isFalse => cases h
   rename_i hc
   simp only [bA_] at hc
   simp only [hc.1.1, hc.1.2, new h, Option.isNone_none, Bool.and_self, if_true]
   exact h
 . unfold a7v at h ⊢
   split at h
   case h_1 => exact h
   case h_3 => cases h
   exfalso
   split at h
   case h_2 => cases h
   rename_i hl
   split at h
   case h_2 => cases h
   split at h
   case isFalse => cases h
   exact bad hl h
 . unfold a7c at h ⊢
   split at h
   case h_2 => cases h
   split at h
   case h_2 => cases h
   split at h
   case isFalse => cases h
   rename_i hc
   rw [bA_] at hc
   have hnm : H nm = none := by
    rw [Option.bind_eq_some_iff] at h
    obtain ⟨r, _, h⟩ := h
    split at h
    . exact new h
    . cases h
   simp only [hc.1, hnm, Option.isNone_none, Bool.and_self, if_true]
   exact h
 . unfold b3s at h ⊢
   split at h
   case h_2 => cases h
   split at h
   case h_2 => cases h
   split at h
   case isFalse => cases h
   rename_i hc
   rw [bA_] at hc
   simp only [hc.1, new h, Option.isNone_none, Bool.and_self, if_true]
   exact h
 . unfold b1v at h ⊢
   split at h
   . split at h
     . simp only [new h, Option.isNone_none, if_true]; exact h
     . cases h
   . cases h
 . exfalso
   unfold b1f at h
   split at h
   case h_2 => cases h
   split at h
   case h_2 => cases h
   rename_i hl
   split at h
   case isFalse => cases h
   split at h
   . exact bad hl h
   . exact bad hl h
   . cases h
 . exfalso
   unfold b1f at h
   split at h
   case h_2 => cases h
   split at h
   case h_2 => cases h
   rename_i hl
   split at h
   case isFalse => cases h
   split at h
   . exact bad hl h
   . exact bad hl h
   . cases h
 . unfold b1t at h ⊢
   split at h
   . cases h
   split at h
   case isFalse => cases h
   split at h
   . split at h
     . rename_i hl
       simp only [hs _ _ hl, new h, Option.isNone_none, if_true]; exact h
     . cases h
   . simp only [new h, Option.isNone_none, if_true]; exact h
   . cases h
 . unfold d8f at h ⊢
   split at h
   case h_2 => cases h
   split at h
   . rename_i hl
     simp only [hs _ _ hl]; exact h
   . rename_i hl
     split at h
     case h_2 => cases h
     rename_i hk
     simp only [hs _ _ hl, hs _ _ hk]
     exact h
   . cases h
 . unfold wApp at h ⊢
   split at h
   case h_2 => cases h
   split at h
   case h_2 => cases h
   split at h
   case isFalse => cases h
   rename_i hc0
   split at h
   case h_2 => cases h
   rename_i hsrc
   split at h
   case isFalse => cases h
   rename_i hcell
   simp only [c1r hs hsrc, hcell, hc0, if_true]
   split at h
   . split at h
     . rename_i hr; simp only [hr, if_true]; exact h
     . rename_i hr
       split at h
       case isFalse => cases h
       rename_i hc
       rw [bA_, bA_] at hc
       simp only [hr, hc.1, hc.2.1, new h, Option.isNone_none, Bool.and_self, if_true]
       exact h
   . split at h
     case isFalse => cases h
     rename_i hc
     rw [bA_, bA_] at hc
     simp only [hc.1, hc.2.1, new h, Option.isNone_none, Bool.and_self, if_true]
     exact h
   . exfalso
     split at h
     . rename_i l _ _ _ _ _ _ hl
       split at h
       case isFalse => cases h
       simp only [sE_, Prod.mk.injEq] at h
       obtain ⟨rfl, _⟩ := h
       have := hf (_, FO.dead) (List.mem_cons_self ..)
       rw [hs _ _ hl] at this
       cases this
     . cases h
   . cases h
 . unfold c5k at h ⊢
   split at h
   . exact h
   . exact h
   . exact h
   . exfalso
     split at h
     . rename_i hl _
       exact bad hl h
     . cases h
   . exact h
   . exfalso
     split at h
     . rename_i hl _
       split at h
       case h_2 => cases h
       split at h
       case isFalse => cases h
       exact bad hl h
     . cases h
   . cases h
 . rw [oM_] at h ⊢
   obtain ⟨y, hy, e⟩ := h
   exact ⟨y, e6i hs hy, e⟩
theorem b9c {H : Heap} {ρ ρ' : Operand -> FV} {nm : Loc} {t : TypeId} {len : Nat} {parts : Array (Nat × Operand)} (h : ∀ x ∈ parts.toList.map (·.2), ρ' x = ρ x) : a7c P H ρ' nm t len parts = a7c P H ρ nm t len parts := by
 unfold a7c
 rw [List.map_congr_left h]
theorem d7z {H : Heap} {ρ ρ' : Operand -> FV} {nm : Loc} (h : ∀ x ∈ o.op.operands.toList, ρ' x = ρ x) : wv P H nm ρ' o = wv P H nm ρ o := by
 unfold wv
 split
 case h_4 =>
  rename_i ho
  rw [ho] at h
  exact b9c fun x hx => h x (by simpa [Op.operands] using hx)
 case h_6 =>
  rename_i r ho
  rw [ho] at h
  cases r with
  | none => rfl
  | some y => simp only [Option.map_some]; rw [h y (by simp [Op.operands])]
 case h_13 => rw [d9l h]
 all_goals first
  | rfl
  | (rename_i ho
     rw [ho] at h
     simp only [Op.operands, Call.operands] at h
     simp only [List.mem_cons, List.not_mem_nil, or_false, forall_eq_or_imp, forall_eq, List.nil_append, Array.toList_append, List.mem_append, false_or] at h
     first
      | rw [h]
      | rw [h.1, h.2]
      | rw [h.1, h.2.1, h.2.2]
      | (simp only [h])
      | (simp only [h.1, h.2])
      | (simp only [h.1, h.2.1, h.2.2]))
end
def FC (P : Program) (G : List (Nat × List Value)) (f : FuncId) (args : List FV) (H : Heap) (r : FV) (H' : Heap) : Prop :=
 ∀ (w : World) (F : Nat -> Prop) (m : Loc -> Nat × Nat) (vs : List Value), (∀ y, F y -> y < w.heap.size) -> a6s G F w -> RFs w F (fun l => H l ≠ none) m args vs -> HeapR w F m H ->
   Calls P f vs.toArray w fun e w' => ∃ (v : Value) (F' : Nat -> Prop) (m' : Loc -> Nat × Nat), e = .returned v /\ (∀ y, F y -> F' y) /\ (∀ y, F' y -> (F y \/ w.heap.size <= y) /\ y < w'.heap.size) /\
    (∀ l, H l ≠ none -> m' l = m l /\ H' l ≠ none) /\ RF w' F' (fun l => H' l ≠ none) m' r v /\ HeapR w' F' m' H' /\ (∀ l, Live H' m' l -> (∃ k, Live H m k /\ (m k).1 = (m' l).1) \/ w.heap.size <= (m' l).1) /\
    w.heap.size <= w'.heap.size /\ (∀ y, y < w.heap.size -> (∀ l, Live H m l -> (m l).1 ≠ y) -> w'.heap[y]? = w.heap[y]?) /\ w'.os = w.os /\ w'.tape = w.tape /\ w'.output = w.output
def fnOk (P : Program) (f : FuncId) : Bool := match P.funcs[f]? with
 | some fn => fn.name != "runtime.NumGoroutine" && fn.body.isSome
 | none => false
section
variable {P : Program} {X : Ctx} {c : Cfg} {w w' : World} {F F' : Nat -> Prop} {m m' : Loc -> Nat × Nat} {s s' : Fs} {a a' : Act} {o : Oper}
theorem d2j (h : RelX X F m s a w) : ∀ l : List Operand, RFs w F (fun l => s.H l ≠ none) m (l.map (rv s)) (l.map a.eval)
 | [] => .nil
 | x :: l => .cons _ _ _ _ (a3a h x) (d2j h l)
theorem RelX.called (h : RelX X F m s a w) {H' : Heap} (hF1 : ∀ y, F y -> F' y) (hF2 : ∀ y, F' y -> (F y \/ w.heap.size <= y) /\ y < w'.heap.size) (hm : ∀ l, s.H l ≠ none -> m' l = m l /\ H' l ≠ none) (hH : HeapR w' F' m' H')
 (hl : ∀ l, Live H' m' l -> (∃ k, Live s.H m k /\ (m k).1 = (m' l).1) \/ w.heap.size <= (m' l).1) (hsz : w.heap.size <= w'.heap.size) (hold : ∀ y, y < w.heap.size -> (∀ l, Live s.H m l -> (m l).1 ≠ y) -> w'.heap[y]? = w.heap[y]?)
 (hos : w'.os = w.os) (htape : w'.tape = w.tape) (hout : w'.output = w.output) : RelX X F' m' { s with H := H' } a w' := by
 refine { df := h.df, vsz := h.vsz, val := fun t => (h.val t).keep hF1 (fun b hb => hold b (h.frz b hb) fun l hl e => (h.heap.old l hl).2 (e ▸ hb)) (fun l hl => (hm l hl).2) (fun l hl => (hm l hl).1), heap := hH, own := fun l hl' => ?_, ext := fun l hl' => (hm l (h.ext l hl')).2, mfix := fun l hl' => (hm l (h.ext l hl')).1.trans (h.mfix l hl'),
          frz := fun b hb => (hF2 b hb).2, keep := fun b hb hn => ?_, size := Nat.le_trans h.size hsz, os := hos.trans h.os, tape := htape.trans h.tape, output := hout.trans h.output }
 . rcases hl l hl' with ⟨k, h1, h2⟩ | h1
   . rw [<- h2]
     exact h.own k h1
   . exact .inr (by have := h.size; omega)
 . rw [hold b (by have := h.size; omega) fun l hl' e => ?_]
   . exact h.keep b hb hn
   . rcases h.own l hl' with h1 | h1
     . exact hn (e ▸ h1)
     . omega
def a1r (s : Fs) (o : Oper) : Option (FuncId × List FV) := match o.op with
 | .call { callee := .value x, args, argTypes := _ } => match rv s x with
   | .clo f first caps => some (f, first ++ args.toList.map (rv s) ++ caps)
   | _ => none
 | _ => none
theorem c4y {f : FuncId} {A : List FV} {r : FV} {H' : Heap} {s1 : Fs} {K : Act -> World -> Prop} {Q : Exit -> Act -> World -> Prop} (hc : a1r s o = some (f, A)) (hf : fnOk P f = true) (hfc : FC P c.G f A s.H r H')
 (hp : putD c o r { s with H := H' } = some s1) (h : Rel X c s a w) (hK : ∀ v w', Rel X c s1 (a.put o.dst v) w' -> K (a.put o.dst v) w') : o.wp P a w K Q := by
 obtain ⟨hN, F, m, h1, h2, h⟩ := h
 unfold a1r at hc
 split at hc
 case h_2 => cases hc
 rename_i x args ts ho
 split at hc
 case h_2 => cases hc
 rename_i g first caps hx
 simp only [sE_, Prod.mk.injEq] at hc
 obtain ⟨rfl, rfl⟩ := hc
 have hxv := a3a h x
 rw [hx] at hxv
 generalize hvx : a.eval x = vx at hxv
 cases hxv with
 | clo _ _ _ us vs g1 g2 =>
 have hargs : RFs w F (fun l => s.H l ≠ none) m (first ++ args.toList.map (rv s) ++ caps) (us ++ args.toList.map a.eval ++ vs) := (g1.append (d2j h _)).append g2
 have hrun : (execOp a.eval o).run P w = .ok (.enter g (us ++ args.toList.map a.eval ++ vs).toArray) w := by
  unfold fnOk at hf
  split at hf
  . rename_i fn hfn
    simp only [bA_, bne_iff_ne, ne_eq] at hf
    have hb : ¬ fn.body = none := fun hh => by rw [hh] at hf; simp at hf
    have e : (us ++ args.toList.map a.eval ++ vs).toArray = us.toArray ++ args.map a.eval ++ vs.toArray := by
     apply Array.ext'
     simp
    rw [e]
    simp [execOp, ho, resolve, hvx, Deferred.ofValue, invoke, callFunc, hfn, hb, hf.1]
  . cases hf
 unfold Oper.wp
 rw [hrun, Oper.upon_enter]
 refine (hfc w F m _ h.frz (h1.here h) hargs h.heap).mono ?_
 rintro e w' ⟨v, F', m', rfl, k1, k2, k3, k4, k5, k6, k7, k8, k9, k10, k11⟩
 have hR := h.called k1 k2 k3 k5 k6 k7 k8 k9 k10 k11
 refine hK v w' ⟨by rw [b0f]; exact hN, F', m', h1.more k1, fun y hy => ?_, b9t hR hN k4 hp⟩
 rcases (k2 y hy).1 with h' | h'
 . exact h2 y h'
 . exact .inr (by have := h.size; omega)
theorem b2v {K : Act -> World -> Prop} {Q : Exit -> Act -> World -> Prop} (hs : Snd P c o s s') (h : Rel X c s a w) (hK : ∀ v w', Rel X c s' (a.put o.dst v) w' -> K (a.put o.dst v) w') : o.wp P a w K Q := by
 obtain ⟨hN, F, m, h1, h2, h⟩ := h
 obtain ⟨m', v, w', hrun, h'⟩ := hs X F m a w hN h
 have := hK v w' ⟨by rw [b0f]; exact hN, F, m', h1, h2, h'⟩
 unfold Oper.wp
 rcases hrun with hrun | ⟨hrun, rfl⟩
 . rw [hrun]; exact this
 . rw [hrun]; exact this
def b1q (P : Program) (c : Cfg) (o : Oper) (s : Fs) : Option Fs := match wv P s.H (c.nm (o.dst.getD 0) s.ix) (rv s) o with
 | some (us, v) => putD c o v { s with H := upds s.H us }
 | none => none
theorem b2r (hs : b1q P c o s = some s') : Snd P c o s s' := by
 unfold b1q at hs
 split at hs
 . exact (f5t ‹_›).snd hs
 . cases hs
def a2d (ops : Array Oper) (o : Oper) (s : Fs) : Option Bool := match o.guard with
 | none => some true
 | some (j, want) => match (ops[j]?).bind (·.dst) with
   | some d => match s.get d with
     | .bool b => some (b == want)
     | .tup [] => some false
     | _ => none
   | none => none
def c9g (P : Program) (c : Cfg) (o : Oper) (s : Fs) (K : Fs -> Prop) : Prop := match a1r s o with
 | some (f, A) => fnOk P f = true /\ ∃ r H', FC P c.G f A s.H r H' /\ ∃ s1, putD c o r { s with H := H' } = some s1 /\ K s1
 | none => ∃ s1, b1q P c o s = some s1 /\ K s1
def wOps (P : Program) (c : Cfg) (ops : Array Oper) : List Oper -> (Fs -> Prop) -> Fs -> Prop
 | [], K, s => K s
 | o :: rest, K, s => match a2d ops o s with
   | some true => c9g P c o s (wOps P c ops rest K)
   | some false => ∃ s1, putD c o (.tup []) s = some s1 /\ wOps P c ops rest K s1
   | none => False
theorem a5i {ops : Array Oper} {b : Bool} (h : Rel X c s a w) (hg : a2d ops o s = some b) : Region.wanted o (yielded ops a.tmps) = b := by
 obtain ⟨_, F, m, _, _, h⟩ := h
 unfold a2d at hg
 unfold Region.wanted
 split at hg
 . rename_i hn; rw [hn]; simpa using hg
 . rename_i j want hj
   rw [hj]
   simp only
   split at hg
   . rename_i d hd
     split at hg
     . rename_i b' hb'
       have hv := h.val d
       rw [hb'] at hv
       generalize hvv : a.tmps.getD d undef = v at hv
       cases hv
       have : a.tmps[d]? = some (.bool b') := by
        rw [Array.getD_eq_getD_getElem?] at hvv
        cases hh : a.tmps[d]? with
        | none => rw [hh] at hvv; simp [undef] at hvv
        | some u => rw [hh] at hvv; simpa using hvv
       have hy : yielded ops a.tmps j = some b' := by
        unfold yielded
        rw [hd, Option.bind_some, this]
       rw [hy]
       simpa using hg
     . rename_i hb'
       obtain rfl : false = b := by simpa using hg
       have hv := h.val d
       rw [hb'] at hv
       generalize hvv : a.tmps.getD d undef = v at hv
       cases hv with
       | tup _ vs hvs =>
       cases hvs
       have hy : yielded ops a.tmps j = none := by
        unfold yielded
        rw [hd, Option.bind_some]
        rw [Array.getD_eq_getD_getElem?] at hvv
        cases hh : a.tmps[d]? with
        | none => rfl
        | some u => rw [hh] at hvv; simp only [gS_] at hvv; subst hvv; rfl
       rw [hy]
       rfl
     . cases hg
   . cases hg
theorem b9i {s1 : Fs} (h : Rel X c s a w) (hs : putD c o (.tup []) s = some s1) : Rel X c s1 (a.put o.dst undef) w := by
 obtain ⟨hN, F, m, h1, h2, h⟩ := h
 exact ⟨by rw [b0f]; exact hN, F, m, h1, h2, b9t h hN (RF.tup [] [] .nil) hs⟩
theorem b5g {ops : Array Oper} {Q : Exit -> Act -> World -> Prop} {K : Fs -> Prop} (hK : ∀ s a w, Rel X c s a w -> K s -> Q .normal a w) :
 ∀ (l : List Oper) (s : Fs) (a : Act) (w : World), Rel X c s a w -> wOps P c ops l K s -> wpList P ops Q l a w
 | [], s, a, w, h, hs => hK s a w h hs
 | o :: rest, s, a, w, h, hs => by
   have ih := b5g (ops := ops) hK rest
   simp only [wOps] at hs
   unfold wpList
   split at hs
   . rename_i hg
     rw [if_pos (a5i h hg)]
     left
     unfold c9g at hs
     split at hs
     . rename_i f A hc
       obtain ⟨hf, r, H', hfc, s1, hp, hs⟩ := hs
       exact c4y hc hf hfc hp h fun v w' h' => ih s1 _ _ h' hs
     . obtain ⟨s1, hst, hs⟩ := hs
       exact b2v (b2r hst) h fun v w' h' => ih s1 _ _ h' hs
   . rename_i hg
     rw [if_neg (by rw [a5i h hg]; simp)]
     obtain ⟨s1, hst, hs⟩ := hs
     exact ih s1 _ _ (b9i h hst) hs
   . exact hs.elim
end
section
variable {P : Program} {X : Ctx} {c : Cfg} {w w' : World} {F F' : Nat -> Prop} {m m' : Loc -> Nat × Nat} {s s' : Fs} {a a' : Act} {o : Oper}
def depT : Operand -> List Nat
 | .tmp t => [t]
 | _ => []
def e3m (ops : Array Oper) (o : Oper) : List Nat := match o.guard with
 | some (j, _) => ((ops[j]?).bind (·.dst)).toList
 | none => []
def deps (ops : Array Oper) (o : Oper) : List Nat := e3m ops o ++ o.op.operands.toList.flatMap depT
theorem d9f {s2 : Fs} {x : Operand} (h : ∀ t ∈ depT x, s2.get t = s.get t) : rv s2 x = rv s x := by
 cases x with
 | tmp t => exact h t (by simp [depT])
 | _ => rfl
theorem b9n {ops : Array Oper} {s2 : Fs} (h : ∀ t ∈ deps ops o, s2.get t = s.get t) : ∀ x ∈ o.op.operands.toList, rv s2 x = rv s x := fun x hx =>
 d9f fun t ht => h t (by simp only [deps, List.mem_append]; right; rw [List.mem_flatMap]; exact ⟨x, hx, ht⟩)
theorem a5s {ops : Array Oper} {s2 : Fs} (h : ∀ t ∈ deps ops o, s2.get t = s.get t) : a2d ops o s2 = a2d ops o s := by
 unfold a2d
 cases hg : o.guard with
 | none => rfl
 | some jw =>
   obtain ⟨j, want⟩ := jw
   simp only
   cases hdst : (ops[j]?).bind (·.dst) with
   | none => rfl
   | some d => simp only; rw [h d (by simp [deps, e3m, hg, hdst])]
theorem c3b {ops : Array Oper} {s2 : Fs} (h : ∀ t ∈ deps ops o, s2.get t = s.get t) : a1r s2 o = a1r s o := by
 have hd := b9n h
 unfold a1r
 split
 . rename_i x args ts ho
   rw [ho] at hd
   simp only [Op.operands, Call.operands] at hd
   rw [hd x (by simp)]
   have e : args.toList.map (rv s2) = args.toList.map (rv s) := List.map_congr_left fun y hy => hd y (by simp at hy ⊢; simp [hy])
   rw [e]
 . rfl
def Calm (P : Program) (c : Cfg) (ops : Array Oper) (o : Oper) (s : Fs) (d : Nat) (v : FV) (A : Heap) : Prop :=
 o.dst = some d /\ d < c.N /\
 ∀ (X : Ctx) (s2 : Fs) (a : Act) (w : World) (K : Act -> World -> Prop) (Q : Exit -> Act -> World -> Prop), (∀ t ∈ deps ops o, s2.get t = s.get t) -> s2.ix = s.ix -> HSub s.H s2.H -> (∀ l, A l ≠ none -> s2.H l = none) -> Rel X c s2 a w ->
   (∀ u w', Rel X c ({ s2 with H := ext s2.H A }.put d v) (a.put o.dst u) w' -> K (a.put o.dst u) w') ->
   if Region.wanted o (yielded ops a.tmps) then o.wp P a w K Q \/ (o.asks P a w /\ LetsOut Q) else K (a.put o.dst undef) w
def d0s (P : Program) (c : Cfg) (ops : Array Oper) (o : Oper) (s : Fs) (d : Nat) (v : FV) (A : Heap) (kl : Loc -> Prop) : Prop :=
 o.dst = some d /\ d < c.N /\
 ∀ (X : Ctx) (s2 : Fs) (a : Act) (w : World) (K : Act -> World -> Prop) (Q : Exit -> Act -> World -> Prop), (∀ t ∈ deps ops o, s2.get t = s.get t) -> s2.ix = s.ix -> HSub s.H s2.H -> (∀ l, A l ≠ none -> ¬ kl l -> s2.H l = none) -> Rel X c s2 a w ->
   (∀ u w', Rel X c ({ s2 with H := ext s2.H A }.put d v) (a.put o.dst u) w' -> K (a.put o.dst u) w') ->
   if Region.wanted o (yielded ops a.tmps) then o.wp P a w K Q \/ (o.asks P a w /\ LetsOut Q) else K (a.put o.dst undef) w
theorem Calm.two {ops : Array Oper} {d : Nat} {v : FV} {A : Heap} (h : Calm P c ops o s d v A) : d0s P c ops o s d v A (fun _ => False) :=
 ⟨h.1, h.2.1, fun X s2 a w K Q h1 h2 h3 h4 => h.2.2 X s2 a w K Q h1 h2 h3 fun l hl => h4 l hl id⟩
theorem c8n {ops : Array Oper} {d : Nat} (hg : a2d ops o s = some false) (hd : o.dst = some d) (hN : d < c.N) : Calm P c ops o s d (.tup []) noH := by
 refine ⟨hd, hN, fun X s2 a w K Q h1 _ _ _ hR hK => ?_⟩
 rw [if_neg (by rw [a5i hR ((a5s h1).trans hg)]; simp)]
 refine hK undef w (b9i hR ?_)
 unfold putD
 simp only [hd]
 rw [if_pos hN]; rfl
theorem d7a {ops : Array Oper} {d : Nat} {v : FV} {A : Heap} (hg : a2d ops o s = some true) (hc : a1r s o = none) (hd : o.dst = some d) (hN : d < c.N)
 (hs : ∀ s2 : Fs, (∀ t ∈ deps ops o, s2.get t = s.get t) -> s2.ix = s.ix -> HSub s.H s2.H -> (∀ l, A l ≠ none -> s2.H l = none) -> b1q P c o s2 = some ({ s2 with H := ext s2.H A }.put d v)) : Calm P c ops o s d v A := by
 refine ⟨hd, hN, fun X s2 a w K Q h1 h2 h3 h4 hR hK => ?_⟩
 rw [if_pos (a5i hR ((a5s h1).trans hg))]
 exact .inl (b2v (b2r (hs s2 h1 h2 h3 h4)) hR hK)
theorem d8h (us : List (Loc × FO)) : ∀ (H A : Heap), upds (ext H A) us = ext H (upds A us) := by
 induction us with
 | nil => exact fun _ _ => rfl
 | cons u us ih =>
   intro H A
   have e : upd (ext H A) u.1 u.2 = ext H (upd A u.1 u.2) := by
    funext k
    unfold upd ext
    by_cases e : k = u.1
    . simp [e]
    . simp [e]
   show upds (upd (ext H A) u.1 u.2) us = _
   rw [e, ih]
   rfl
theorem c5n (H : Heap) (us : List (Loc × FO)) : upds H us = ext H (upds noH us) := by
 have := d8h us H noH
 rwa [a1l] at this
theorem c5o : ∀ (us : List (Loc × FO)) (H : Heap), ∀ u ∈ us, upds H us u.1 ≠ none
 | [], _, _, h => by cases h
 | x :: us, H, u, h => by
   rcases List.mem_cons.1 h with rfl | h
   . exact d1f us (H := upd H u.1 u.2) (by simp [upd])
   . exact c5o us _ u h
theorem e4o {ops : Array Oper} {s2 : Fs} {nm : Loc} {us : List (Loc × FO)} {v : FV} (hv : wv P s.H nm (rv s) o = some (us, v)) (h1 : ∀ t ∈ deps ops o, s2.get t = s.get t) (h3 : HSub s.H s2.H) (h4 : ∀ l, upds noH us l ≠ none -> s2.H l = none) : wv P s2.H nm (rv s2) o = some (us, v) := by
 rw [d7z (b9n h1)]
 exact e4n h3 hv fun u hu => h4 _ (c5o us _ u hu)
theorem e8t {ops : Array Oper} {d : Nat} {us : List (Loc × FO)} {v : FV} (hg : a2d ops o s = some true) (hc : a1r s o = none) (hd : o.dst = some d) (hN : d < c.N) (hv : wv P s.H (c.nm d s.ix) (rv s) o = some (us, v)) : Calm P c ops o s d v (upds noH us) := by
 refine d7a hg hc hd hN fun s2 h1 h2 h3 h4 => ?_
 have := e4o hv h1 h3 h4
 simp only [b1q, hd, gS_, h2, this, c5n s2.H us, putD]
 rw [if_pos hN]
theorem e1w {ops : Array Oper} {d : Nat} {us : List (Loc × FO)} {v : FV} {kl : Loc -> Prop} (hg : a2d ops o s = some true) (hc : a1r s o = none) (hd : o.dst = some d) (hN : d < c.N)
 (hv : ∀ s2 : Fs, (∀ x ∈ o.op.operands.toList, rv s2 x = rv s x) -> s2.ix = s.ix -> HSub s.H s2.H -> (∀ l, upds noH us l ≠ none -> ¬ kl l -> s2.H l = none) -> wv P s2.H (c.nm d s2.ix) (rv s2) o = some (us, v)) : d0s P c ops o s d v (upds noH us) kl := by
 refine ⟨hd, hN, fun X s2 a w K Q h1 h2 h3 h4 hR hK => ?_⟩
 rw [if_pos (a5i hR ((a5s h1).trans hg))]
 refine .inl (b2v (b2r (s' := { s2 with H := ext s2.H (upds noH us) }.put d v) ?_) hR hK)
 have := hv s2 (b9n h1) h2 h3 h4
 simp only [b1q, hd, gS_, this, c5n s2.H us, putD]
 rw [if_pos hN]
theorem c3a {ops : Array Oper} {d : Nat} {f : FuncId} {args : List FV} {v : FV} {A : Heap} (hg : a2d ops o s = some true) (hc : a1r s o = some (f, args)) (hf : fnOk P f = true) (hd : o.dst = some d) (hN : d < c.N)
 (hfc : ∀ H2, HSub s.H H2 -> (∀ l, A l ≠ none -> H2 l = none) -> FC P c.G f args H2 v (ext H2 A)) : Calm P c ops o s d v A := by
 refine ⟨hd, hN, fun X s2 a w K Q h1 h2 h3 h4 hR hK => ?_⟩
 rw [if_pos (a5i hR ((a5s h1).trans hg))]
 refine .inl (c4y ((c3b h1).trans hc) hf (hfc s2.H h3 h4) ?_ hR hK)
 unfold putD
 simp only [hd]
 rw [if_pos hN]
end
def a3v (o : Oper) (j : Nat) : Bool := o.after.any fun e => Region.binds .any e && e.on == j
def b7r (ops : Array Oper) (n k : Nat) (o : Oper) : Bool :=
 (deps ops o).all fun t => (List.range n).all fun j => !(((ops[j]?).bind (·.dst)) == some t) || (decide (j < k) && a3v o j)
def awH (P : Program) (c : Cfg) (ops : Array Oper) (n : Nat) (K : Fs -> Prop) (H0 : Heap) (rs : List Loc) : Nat -> List Oper -> Fs -> List Heap -> Prop
 | k, o :: rest, s, As => if k < n then ∃ d v A Hn kl, d0s P c ops o { s with H := Hn } d v A kl /\ b7r ops n k o = true /\ (∀ l, A l ≠ none -> kl l \/ s.H l = none) /\ (∀ l, kl l -> A l ≠ none /\ l ∈ rs /\ H0 l = none /\ ∀ (j : Nat) (Aj : Heap), As[j]? = some Aj -> Aj l ≠ none -> a3v o j = true) /\
  (∀ l ob, Hn l = some ob -> H0 l = some ob \/ (kl l /\ s.H l = some ob) \/ (l ∉ rs /\ ∃ j Aj, As[j]? = some Aj /\ a3v o j = true /\ Aj l = some ob)) /\ awH P c ops n K H0 rs (k + 1) rest ({ s with H := ext s.H A }.put d v) (As ++ [A])
  else wOps P c ops (o :: rest) K s
 | _, [], s, _ => K s
def c3s (ops : Array Oper) (n : Nat) : Bool := Region.seqB .any ops (ops.size - n) n ((Array.range ops.size).map fun i => decide (i < n))
def e9l (ops : Array Oper) : Bool := (List.range ops.size).all fun i => match ops[i]? with
 | some o => o.after.all fun e => !Region.binds .any e || decide (e.on < i)
 | none => true
def b7q (ops : Array Oper) (n : Nat) : Bool :=
 decide (n <= ops.size) && (((n == ops.size) || (Region.sinkB .any ops n && Region.chainB .any ops n)) && (c3s ops n && (e9l ops && decide (((ops.toList.take n).filterMap (·.dst)).Nodup))))
def e4g (P : Program) (c : Cfg) (ops : Array Oper) (K : Fs -> Prop) (s : Fs) : Prop := P.follows .mixedOrders = true /\ ∃ n H0 rs, b7q ops n = true /\ HSub H0 s.H /\ awH P c ops n K H0 rs 0 ops.toList s []
structure Trace where
 sA : Nat -> Fs
 dA : Nat -> Nat
 vA : Nat -> FV
 AA : Nat -> Heap
structure TraceOk (P : Program) (c : Cfg) (ops : Array Oper) (n : Nat) (H0 : Heap) (rs : List Loc) (k : Nat) (T : Trace) : Prop where
 step : ∀ i, k <= i -> i < n -> ∃ o Hn kl, ops[i]? = some o /\ d0s P c ops o { T.sA i with H := Hn } (T.dA i) (T.vA i) (T.AA i) kl /\ b7r ops n i o = true /\ (∀ l, T.AA i l ≠ none -> kl l \/ (T.sA i).H l = none) /\ (∀ l, kl l -> T.AA i l ≠ none /\ l ∈ rs /\ H0 l = none /\ ∀ j, j < i -> T.AA j l ≠ none -> a3v o j = true) /\
  (∀ l ob, Hn l = some ob -> H0 l = some ob \/ (kl l /\ (T.sA i).H l = some ob) \/ (l ∉ rs /\ ∃ j, j < i /\ a3v o j = true /\ T.AA j l = some ob)) /\ T.sA (i + 1) = { T.sA i with H := ext (T.sA i).H (T.AA i) }.put (T.dA i) (T.vA i)
theorem c3f {P : Program} {c : Cfg} {ops : Array Oper} {n : Nat} {K : Fs -> Prop} {H0 : Heap} {rs : List Loc} (hn : n <= ops.size) : ∀ (m k : Nat) (l : List Oper) (s : Fs) (As : List Heap), n - k = m -> k <= n -> As.length = k -> l = ops.toList.drop k -> awH P c ops n K H0 rs k l s As ->
 ∃ T : Trace, T.sA k = s /\ (∀ j A, As[j]? = some A -> T.AA j = A) /\ TraceOk P c ops n H0 rs k T /\ wOps P c ops (ops.toList.drop n) K (T.sA n)
 | 0, k, l, s, As, hm, hk, hA, hl, h => by
   have : k = n := by omega
   subst this
   refine ⟨⟨fun _ => s, fun _ => 0, fun _ => .undef, fun j => (As[j]?).getD noH⟩, rfl, fun j A hj => by simp [hj], ⟨fun i hi hi' => by omega⟩, ?_⟩
   subst hl
   cases hd : ops.toList.drop k with
   | nil => rw [hd] at h; exact h
   | cons o rest => rw [hd] at h; simp only [awH, Nat.lt_irrefl, if_false] at h; exact h
 | m + 1, k, l, s, As, hm, hk, hA, hl, h => by
   have hkn : k < n := by omega
   have hks : k < ops.toList.length := by simp; omega
   have hd : ops.toList.drop k = ops.toList[k] :: ops.toList.drop (k + 1) := List.drop_eq_getElem_cons hks
   rw [hl, hd] at h
   simp only [awH, hkn, if_true] at h
   obtain ⟨d, v, A, Hn, kl, hq, hdep, hfr, hkl, hneed, h⟩ := h
   obtain ⟨T, h1, hAs, h2, h3⟩ := c3f hn m (k + 1) _ _ (As ++ [A]) (by omega) hkn (by simp [hA]) rfl h
   have hAk : T.AA k = A := hAs k A (by rw [List.getElem?_append_right (by omega)]; simp [hA])
   refine ⟨⟨fun i => if i = k then s else T.sA i, fun i => if i = k then d else T.dA i, fun i => if i = k then v else T.vA i, T.AA⟩, by simp, fun j B hj => hAs j B (by rw [List.getElem?_append_left (by rw [List.getElem?_eq_some_iff] at hj; exact hj.1)]; exact hj), ⟨fun i hi hi' => ?_⟩, ?_⟩
   . by_cases e : i = k
     . subst e
       refine ⟨ops.toList[i], Hn, kl, by rw [<- Array.getElem?_toList, gE_ hks], ?_, hdep, ?_, fun l hl => ?_, fun l ob hl => ?_, ?_⟩
       . simpa [hAk] using hq
       . simpa [hAk] using hfr
       . obtain ⟨g1, g0, g2, g3⟩ := hkl l hl
         refine ⟨by rw [hAk]; exact g1, g0, g2, fun j hj hne => ?_⟩
         have hjA : j < As.length := by omega
         rw [hAs j As[j] (by rw [List.getElem?_append_left hjA, gE_ hjA])] at hne
         exact g3 j _ (gE_ hjA) hne
       . rcases hneed l ob hl with g | ⟨g, g'⟩ | ⟨g0, j, Aj, g1, g2, g3⟩
         . exact .inl g
         . exact .inr (.inl ⟨g, by simpa using g'⟩)
         . have hji : j < i := by have := (List.getElem?_eq_some_iff.1 g1).1; omega
           exact .inr (.inr ⟨g0, j, hji, g2, by rw [hAs j Aj (by rw [List.getElem?_append_left (by omega)]; exact g1)]; exact g3⟩)
       . have : i + 1 ≠ i := by omega
         simp only [this, if_false, if_true, hAk]
         exact h1
     . have e2 : i + 1 ≠ k := by omega
       simp only [e, e2, if_false]
       exact h2.step i (by omega) hi'
   . have : n ≠ k := by omega
     simp only [this, if_false]
     exact h3
section
variable {P : Program} {X : Ctx} {c : Cfg} {ops : Array Oper} {n : Nat} {T : Trace}
theorem Rel.same {s s' : Fs} {a : Act} {w : World} (h : Rel X c s a w) (hg : ∀ t, s'.get t = s.get t) (hH : s'.H = s.H) (hvl : s'.vars.length = s.vars.length) : Rel X c s' a w := by
 obtain ⟨hN, F, m, h1, h2, hR⟩ := h
 exact ⟨hN, F, m, h1, h2, { hR with
  vsz := by rw [hvl]; exact hR.vsz
  val := fun t => by rw [hg t, hH]; exact hR.val t
  heap := by rw [hH]; exact hR.heap
  own := by rw [hH]; exact hR.own
  ext := by rw [hH]; exact hR.ext }⟩
theorem TraceOk.gets {H0 : Heap} {rs : List Loc} (h : TraceOk P c ops n H0 rs 0 T) (hinj : ∀ i j, i < n -> j < n -> T.dA i = T.dA j -> i = j) : ∀ i, i <= n -> (∀ j, j < i -> (T.sA i).get (T.dA j) = T.vA j) /\ (∀ t, (∀ j, j < i -> T.dA j ≠ t) -> (T.sA i).get t = (T.sA 0).get t) /\
 (T.sA i).ix = (T.sA 0).ix /\ (T.sA i).vars.length = (T.sA 0).vars.length /\ (∀ j, j < i -> ∀ l ob, T.AA j l = some ob -> (∀ j', j < j' -> j' < i -> T.AA j' l = none) -> (T.sA i).H l = some ob) /\ (∀ l, (∀ j, j < i -> T.AA j l = none) -> (T.sA i).H l = (T.sA 0).H l) := by
 intro i
 induction i with
 | zero => exact fun _ => ⟨fun j hj => by omega, fun _ _ => rfl, rfl, rfl, fun j hj => by omega, fun _ _ => rfl⟩
 | succ i ih =>
   intro hi
   obtain ⟨h1, h2, h3, h4, h5, h6⟩ := ih (by omega)
   obtain ⟨o, Hn, kl, _, _, _, hfr, hkl, _, e⟩ := h.step i (Nat.zero_le _) (by omega)
   rw [e]
   refine ⟨fun j hj => ?_, fun t ht => ?_, by rw [c7g]; exact h3, by rw [b0d]; exact h4, fun j hj l ob hl hno => ?_, fun l hl => ?_⟩
   . rw [a7z]
     by_cases ej : j = i
     . subst ej; simp
     . rw [if_neg fun e' => ej (hinj j i (by omega) (by omega) e')]
       exact h1 j (by omega)
   . rw [a7z, if_neg fun e' => ht i (by omega) e'.symm]
     exact h2 t fun j hj => ht j (by omega)
   . rw [b3p]
     by_cases ej : j = i
     . subst ej; simp [ext, hl]
     . have hH := h5 j (by omega) l ob hl fun j' h1' h2' => hno j' h1' (by omega)
       simp only [ext, hno i (by omega) (by omega)]
       exact hH
   . rw [b3p]
     simp only [ext, hl i (by omega)]
     exact h6 l fun j hj => hl j (by omega)
theorem a6l (f : Nat -> Prop) : ∀ i, (∀ j, j < i -> ¬ f j) \/ ∃ j, j < i /\ f j /\ ∀ j', j < j' -> j' < i -> ¬ f j'
 | 0 => .inl fun j hj => by omega
 | i + 1 => by
   by_cases hi : f i
   . exact .inr ⟨i, by omega, hi, fun j' h1 h2 => by omega⟩
   . rcases a6l f i with h | ⟨j, h1, h2, h3⟩
     . refine .inl fun j hj => ?_
       by_cases e : j = i
       . subst e; exact hi
       . exact h j (by omega)
     . refine .inr ⟨j, by omega, h2, fun j' h1' h2' => ?_⟩
       by_cases e : j' = i
       . subst e; exact hi
       . exact h3 j' h1' (by omega)
theorem TraceOk.touched {H0 : Heap} {rs : List Loc} (h : TraceOk P c ops n H0 rs 0 T) (hinj : ∀ i j, i < n -> j < n -> T.dA i = T.dA j -> i = j) {i j : Nat} (hi : i <= n) (hj : j < i) {l : Loc} (hl : T.AA j l ≠ none) : (T.sA i).H l ≠ none := by
 obtain ⟨_, _, _, _, h5, _⟩ := h.gets hinj i hi
 rcases a6l (fun j => T.AA j l ≠ none) i with h' | ⟨j', h1, h2, h3⟩
 . exact absurd hl (h' j hj)
 . obtain ⟨ob, hob⟩ := Option.ne_none_iff_exists'.1 h2
   rw [h5 j' h1 l ob hob fun j'' q1 q2 => by
    cases hx : T.AA j'' l with
    | none => rfl
    | some o => exact absurd (by rw [hx]; simp) (h3 j'' q1 q2)]
   simp
theorem TraceOk.again {H0 : Heap} {rs : List Loc} (h : TraceOk P c ops n H0 rs 0 T) (hinj : ∀ i j, i < n -> j < n -> T.dA i = T.dA j -> i = j) {i j : Nat} (hi : i < n) (hj : j < i) {l : Loc} (hl : T.AA j l ≠ none) (hl' : T.AA i l ≠ none) {o : Oper} (ho : ops[i]? = some o) : a3v o j = true /\ l ∈ rs := by
 obtain ⟨o', Hn, kl, ho', _, _, hfr, hkl, _, _⟩ := h.step i (Nat.zero_le _) hi
 have e : o' = o := sI_ (ho'.symm.trans ho)
 subst e
 rcases hfr l hl' with hk | hno
 . obtain ⟨_, g0, _, g3⟩ := hkl l hk
   exact ⟨g3 j hj hl, g0⟩
 . exact absurd hno (h.touched hinj (Nat.le_of_lt hi) hj hl)
theorem TraceOk.out0 {H0 : Heap} {rs : List Loc} (h : TraceOk P c ops n H0 rs 0 T) (hsub : HSub H0 (T.sA 0).H) (hinj : ∀ i j, i < n -> j < n -> T.dA i = T.dA j -> i = j) : ∀ (d i : Nat), i = d -> i < n -> ∀ l, T.AA i l ≠ none -> H0 l = none := by
 intro d
 induction d using Nat.strongRecOn with
 | _ d ih =>
   intro i hd hi l hl
   obtain ⟨_, _, _, _, _, h6⟩ := h.gets hinj i (Nat.le_of_lt hi)
   obtain ⟨o', Hn, kl, _, _, _, hfr, hkl, _, _⟩ := h.step i (Nat.zero_le _) hi
   rcases hfr l hl with hk | hno
   . exact (hkl l hk).2.2.1
   . by_cases hx : ∃ j, j < i /\ T.AA j l ≠ none
     . obtain ⟨j, hj, hjl⟩ := hx
       exact ih j (by omega) j rfl (by omega) l hjl
     . rw [h6 l fun j hj => by
        cases hq : T.AA j l with
        | none => rfl
        | some o => exact absurd ⟨j, hj, by rw [hq]; simp⟩ hx] at hno
       cases hx : H0 l with
       | none => rfl
       | some o' => have := hsub l o' hx; rw [hno] at this; cases this
structure Agree (n : Nat) (T : Trace) (listed : Array Bool) (s : Fs) : Prop where
 inS : ∀ j, j < n -> listed.getD j false = true -> s.get (T.dA j) = T.vA j
 out : ∀ t, (∀ j, j < n -> listed.getD j false = true -> T.dA j ≠ t) -> s.get t = (T.sA 0).get t
 ix : s.ix = (T.sA 0).ix
 vl : s.vars.length = (T.sA 0).vars.length
 hA : ∀ j, j < n -> listed.getD j false = true -> ∀ l ob, T.AA j l = some ob -> (∀ j', j < j' -> j' < n -> listed.getD j' false = true -> T.AA j' l = none) -> s.H l = some ob
 hO : ∀ l, (∀ j, j < n -> listed.getD j false = true -> T.AA j l = none) -> s.H l = (T.sA 0).H l
theorem c8j {Q : Exit -> Act -> World -> Prop} {H0 : Heap} {rs : List Loc} (hT : TraceOk P c ops n H0 rs 0 T) (hsub : HSub H0 (T.sA 0).H) (hinj : ∀ i j, i < n -> j < n -> T.dA i = T.dA j -> i = j) (hn : n <= ops.size) (hsc : n = ops.size \/ (Region.sinkB .any ops n = true /\ Region.chainB .any ops n = true))
 (hseq : c3s ops n = true) (hback : e9l ops = true) (htail : ∀ a w, Rel X c (T.sA n) a w -> wpList P ops Q (ops.toList.drop n) a w) :
 ∀ (m : Nat) (listed : Array Bool) (s : Fs) (a : Act) (w : World), ((List.range n).filter fun i => !listed.getD i true).length = m -> HeadInv .any ops n listed -> Agree n T listed s -> Rel X c s a w ->
   wpAny P .any ops Q (m + (ops.size - n)) listed a w := by
 intro m
 induction m with
 | zero =>
   intro listed s a w hm inv hag hR
   have hall : ∀ i, i < n -> listed.getD i true = true := fun i hi => by
    have := eN_ hm
    rw [List.filter_eq_nil_iff] at this
    simpa using this i (List.mem_range.2 hi)
   have hlist : listed = (Array.range ops.size).map fun i => decide (i < n) := by
    apply Array.ext
    . simp [inv.size]
    . intro i h1 h2
      have hio : i < ops.size := by rw [<- inv.size]; exact h1
      simp only [Array.getElem_map, Array.getElem_range]
      by_cases hin : i < n
      . have := hall i hin
        simp [Array.getD, h1] at this
        simp [hin, this]
      . have := inv.tail i (by omega) hio
        simp [Array.getD, h1] at this
        simp [hin, this]
   have hR' : Rel X c (T.sA n) a w := by
    obtain ⟨g1, g2, g3, g4, g5, g6⟩ := hT.gets hinj n (nr_ _)
    have hf : ∀ j, j < n -> listed.getD j false = true := fun j hj => by
     have := hall j hj
     have hjl : j < listed.size := by rw [inv.size]; omega
     simp [Array.getD, hjl] at this ⊢; exact this
    refine hR.same (fun t => ?_) ?_ (g4.trans hag.vl.symm)
    . by_cases ht : ∃ j, j < n /\ T.dA j = t
      . obtain ⟨j, hj, rfl⟩ := ht
        rw [g1 j hj, hag.inS j hj (hf j hj)]
      . have ht' : ∀ j, j < n -> T.dA j ≠ t := fun j hj e => ht ⟨j, hj, e⟩
        rw [g2 t ht', hag.out t fun j hj _ => ht' j hj]
    . funext l
      have nn : ∀ j, ¬ T.AA j l ≠ none -> T.AA j l = none := fun j h => by
       cases hx : T.AA j l with
       | none => rfl
       | some o' => exact absurd (by rw [hx]; simp) h
      rcases a6l (fun j => T.AA j l ≠ none) n with hl | ⟨j, hj, hne, hlast⟩
      . rw [g6 l fun j hj => nn j (hl j hj), hag.hO l fun j hj _ => nn j (hl j hj)]
      . obtain ⟨ob, hob⟩ := Option.ne_none_iff_exists'.1 hne
        rw [g5 j hj l ob hob fun j' q1 q2 => nn j' (hlast j' q1 q2), hag.hA j hj (hf j hj) l ob hob fun j' q1 q2 _ => nn j' (hlast j' q1 q2)]
   have hdl : (ops.toList.drop n).length = ops.size - n := by simp
   have := wpAny_of_seq (P := P) (md := .any) (Q' := Q) (ops.toList.drop n) n listed a w (fun j => by simp [List.getElem?_drop]) (by rw [hdl, hlist]; exact hseq) (htail a w hR')
   rw [hdl] at this
   simpa using this
 | succ m ih =>
   intro listed s a w hm inv hag hR
   have hex : ∃ i, i < n /\ listed.getD i true = false := by
    cases hl : (List.range n).filter fun i => !listed.getD i true with
    | nil => rw [hl] at hm; simp at hm
    | cons x xs =>
      have : x ∈ (List.range n).filter fun i => !listed.getD i true := by rw [hl]; simp
      rw [List.mem_filter, List.mem_range] at this
      exact ⟨x, this.1, by simpa using this.2⟩
   rw [show m + 1 + (ops.size - n) = (m + (ops.size - n)) + 1 by omega]
   refine ⟨fun hnil => ?_, fun i hi => ?_⟩
   . exfalso
     have least : ∀ k i, i <= k -> i < n -> listed.getD i true = false -> False := by
      intro k
      induction k using Nat.strongRecOn with
      | _ k ihk =>
        intro i hik hin hun
        have hio : i < ops.size := by omega
        have hoi : ops[i]? = some ops[i] := Array.getElem?_eq_getElem hio
        have hnr : i ∉ Region.ready .any ops listed := by rw [hnil]; simp
        rw [mem_ready] at hnr
        have : ∃ e ∈ (ops[i]).after, Region.binds .any e = true /\ listed.getD e.on false = false := by
         by_cases hh : ∃ e ∈ (ops[i]).after, Region.binds .any e = true /\ listed.getD e.on false = false
         . exact hh
         . exfalso
           refine hnr ⟨hun, _, hoi, fun e he hb => ?_⟩
           by_cases h' : listed.getD e.on false = true
           . exact h'
           . exact absurd ⟨e, he, hb, by simpa using h'⟩ hh
        obtain ⟨e, he, hb, hl⟩ := this
        have hbk := List.all_eq_true.1 hback i (List.mem_range.2 hio)
        simp only [hoi] at hbk
        have hlt := (Array.all_eq_true'.1 hbk) e he
        simp only [hb, Bool.not_true, Bool.false_or, dE_] at hlt
        exact ihk e.on (by omega) e.on (nr_ _) (by omega) (getD_in (by rw [inv.size]; omega) hl)
     obtain ⟨i, hi, hun⟩ := hex
     exact least i i (nr_ _) hi hun
   . have hin : i < n := by
      rcases Nat.lt_or_ge i n with h | h
      . exact h
      . obtain ⟨j, hj, hun⟩ := hex
        rcases hsc with e | ⟨hs, hc⟩
        . obtain ⟨_, oi, hoi, _⟩ := mem_ready.1 hi
          have := (Array.getElem?_eq_some_iff.1 hoi).1
          omega
        . by_cases e : n = ops.size
          . obtain ⟨_, oi, hoi, _⟩ := mem_ready.1 hi
            have := (Array.getElem?_eq_some_iff.1 hoi).1
            omega
          . exact absurd hi (tail_waits hs hc (by omega) inv _ j rfl hj hun i h)
     obtain ⟨hun, oi, hoi, hall⟩ := mem_ready.1 hi
     obtain ⟨o, Hn, kl, ho, hq, hdep, hfr, hkl, hneed, hst⟩ := hT.step i (Nat.zero_le _) hin
     obtain rfl : o = oi := sI_ (ho.symm.trans hoi)
     obtain ⟨g1, g2, g3, g4, g5, g6⟩ := hT.gets hinj i (Nat.le_of_lt hin)
     have hdst : ∀ j, j < n -> (ops[j]?).bind (·.dst) = some (T.dA j) := fun j hj => by
      obtain ⟨o', _, _, ho', hq', _⟩ := hT.step j (Nat.zero_le _) hj
      rw [ho', Option.bind_some]
      exact hq'.1
     have hunf : listed.getD i false = false := getD_both hun
     have hwait : ∀ j, a3v o j = true -> listed.getD j false = true := fun j hj => by
      obtain ⟨e, he, hb⟩ := Array.any_eq_true'.1 hj
      simp only [bA_, beq_iff_eq] at hb
      have := hall e he hb.1
      rw [hb.2] at this; exact this
     have hij : ∀ j, j < n -> listed.getD j false = true -> j ≠ i := fun j _ hl e => by rw [e] at hl; rw [hl] at hunf; cases hunf
     have hops : ∀ j, j < n -> ∃ o', ops[j]? = some o' := fun j hj => ⟨ops[j]'(by omega), Array.getElem?_eq_getElem _⟩
     have later : ∀ l j, T.AA i l ≠ none -> j < n -> listed.getD j false = true -> T.AA j l ≠ none -> j < i := fun l j h1 hj hlj h2 => by
      rcases Nat.lt_trichotomy j i with h | h | h
      . exact h
      . exact absurd h (hij j hj hlj)
      . exfalso
        obtain ⟨oj, hoj⟩ := hops j hj
        have hw := (hT.again hinj hj h h1 h2 hoj).1
        obtain ⟨e, he, hb⟩ := Array.any_eq_true'.1 hw
        simp only [bA_, beq_iff_eq] at hb
        have := inv.closed j oj hoj hlj e he hb.1
        rw [hb.2, hunf] at this; cases this
     have sameH : ∀ l, T.AA i l ≠ none -> (∀ j, j < i -> T.AA j l ≠ none -> listed.getD j false = true) -> s.H l = (T.sA i).H l := fun l h1 h2 => by
      have nn : ∀ j, ¬ T.AA j l ≠ none -> T.AA j l = none := fun j h => by
       cases hx : T.AA j l with
       | none => rfl
       | some o' => exact absurd (by rw [hx]; simp) h
      rcases a6l (fun j => T.AA j l ≠ none) i with hl | ⟨j, hj, hne, hlast⟩
      . rw [g6 l fun j hj => nn j (hl j hj)]
        refine hag.hO l fun j hj hlj => nn j fun hne => ?_
        exact hl j (later l j h1 hj hlj hne) hne
      . obtain ⟨ob, hob⟩ := Option.ne_none_iff_exists'.1 hne
        rw [g5 j hj l ob hob fun j' q1 q2 => nn j' (hlast j' q1 q2)]
        exact hag.hA j (by omega) (h2 j hj hne) l ob hob fun j' q1 q2 q3 => nn j' fun hne' => hlast j' q1 (later l j' h1 q2 q3 hne') hne'
     unfold wpOp
     simp only [ho]
     refine hq.2.2 X s a w _ Q (fun t ht => ?_) (hag.ix.trans g3.symm) (fun l ob hl => ?_) (fun l hl hnk => ?_) hR fun u w' hR' => ih _ ({ s with H := ext s.H (T.AA i) }.put (T.dA i) (T.vA i)) _ w' ?_ (inv.set hi hin) ?_ hR'
     . show s.get t = (T.sA i).get t
       by_cases hh : ∃ j, j < n /\ T.dA j = t
       . obtain ⟨j, hj, rfl⟩ := hh
         have h1 := List.all_eq_true.1 hdep _ ht
         have h2 := List.all_eq_true.1 h1 j (List.mem_range.2 hj)
         rw [hdst j hj] at h2
         simp only [beq_self_eq_true, Bool.not_true, Bool.false_or, bA_, dE_] at h2
         rw [hag.inS j hj (hwait j h2.2), g1 j h2.1]
       . have hh' : ∀ j, j < n -> T.dA j ≠ t := fun j hj e => hh ⟨j, hj, e⟩
         rw [hag.out t fun j hj _ => hh' j hj, g2 t fun j hj => hh' j (by omega)]
     . rcases hneed l ob hl with h0 | ⟨hk, h0⟩ | ⟨hrs, j, hji, hw, hA⟩
       . rw [hag.hO l fun j hj _ => ?_]
         . exact hsub l ob h0
         . cases hx : T.AA j l with
           | none => rfl
           | some o' => have := hT.out0 hsub hinj j j rfl hj l (by rw [hx]; simp); rw [h0] at this; cases this
       . obtain ⟨q1, q0, _, q3⟩ := hkl l hk
         exact (sameH l q1 fun j hj hne => hwait j (q3 j hj hne)).trans h0
       . refine hag.hA j (by omega) (hwait j hw) l ob hA fun j' h1' h2' _ => ?_
         cases hx : T.AA j' l with
         | none => rfl
         | some o' =>
           obtain ⟨oj', hoj'⟩ := hops j' h2'
           exact absurd (hT.again hinj h2' h1' (by rw [hA]; simp) (by rw [hx]; simp) hoj').2 hrs
     . have hno := (hfr l hl).resolve_left hnk
       exact (sameH l hl fun j hj hne => absurd hno (hT.touched hinj (Nat.le_of_lt hin) hj hne)).trans hno
     . have hperm : ((List.range n).filter fun j => !listed.getD j true).length = ((List.range n).filter fun j => !(listed.setIfInBounds i true).getD j true).length + 1 := by
        have key : ∀ (l : List Nat), l.Nodup -> i ∈ l -> (l.filter fun j => !listed.getD j true).length = (l.filter fun j => !(listed.setIfInBounds i true).getD j true).length + 1 := by
         intro l
         induction l with
         | nil => intro _ h; cases h
         | cons x l ihl =>
           intro hnd hmem
           rw [List.nodup_cons] at hnd
           rw [List.filter_cons, List.filter_cons]
           by_cases hx : x = i
           . subst hx
             have e1 : (listed.setIfInBounds x true).getD x true = true := by
              rcases Nat.lt_or_ge x listed.size with h | h <;> simp [Array.getD, h]
             simp only [hun, e1, Bool.not_false, Bool.not_true, if_true, List.length_cons]
             have : (l.filter fun j => !listed.getD j true) = l.filter fun j => !(listed.setIfInBounds x true).getD j true := by
              apply List.filter_congr
              intro j hj
              have hne : x ≠ j := fun e => hnd.1 (e ▸ hj)
              rw [getD_set_ne true hne]
             rw [this]
             simp
           . have hmem' : i ∈ l := by
              rcases List.mem_cons.1 hmem with h | h
              . exact absurd h.symm hx
              . exact h
             rw [getD_set_ne true (Ne.symm hx)]
             have := ihl hnd.2 hmem'
             split
             . simp only [List.length_cons]; omega
             . exact this
        exact key _ List.nodup_range (List.mem_range.2 hin)
       omega
     . have hii : (listed.setIfInBounds i true).getD i false = true := by
        have hil : i < listed.size := by rw [inv.size]; omega
        simp [Array.getD, hil]
       refine ⟨fun j hj hl => ?_, fun t ht => ?_, by rw [c7g]; exact hag.ix, by rw [b0d]; exact hag.vl, fun j hj hl l ob hA hno => ?_, fun l hA => ?_⟩
       . rw [a7z]
         by_cases ej : j = i
         . subst ej; simp
         . rw [if_neg fun e => ej (hinj j i hj hin e)]
           rw [getD_set_ne false (Ne.symm ej)] at hl
           exact hag.inS j hj hl
       . rw [a7z, if_neg fun e => ht i hin hii e.symm]
         exact hag.out t fun j hj hl => ht j hj (getD_set_true hl)
       . rw [b3p]
         by_cases ej : j = i
         . subst ej; simp [ext, hA]
         . rw [getD_set_ne false (Ne.symm ej)] at hl
           have hi0 : T.AA i l = none := by
            cases hx : T.AA i l with
            | none => rfl
            | some o' =>
              have h1 := later l j (by rw [hx]; simp) hj hl (by rw [hA]; simp)
              have := hno i h1 hin hii
              rw [hx] at this; cases this
           simp only [ext, hi0]
           exact hag.hA j hj hl l ob hA fun j' q1 q2 q3 => hno j' q1 q2 (getD_set_true q3)
       . rw [b3p]
         simp only [ext, hA i hin hii]
         exact hag.hO l fun j hj hl => hA j hj (getD_set_true hl)
theorem c1k {H0 : Heap} {rs : List Loc} (hT : TraceOk P c ops n H0 rs 0 T) (hn : n <= ops.size) (hnd : ((ops.toList.take n).filterMap (·.dst)).Nodup) : ∀ i j, i < n -> j < n -> T.dA i = T.dA j -> i = j := by
 have hdst : ∀ j, j < n -> (ops[j]?).bind (·.dst) = some (T.dA j) := fun j hj => by
  obtain ⟨o', _, _, ho', hq', _⟩ := hT.step j (Nat.zero_le _) hj
  rw [ho', Option.bind_some]
  exact hq'.1
 have hlist : (ops.toList.take n).filterMap (·.dst) = (List.range n).map T.dA := by
  apply List.ext_getElem?
  have hall : ∀ (m : Nat), m <= n -> (ops.toList.take m).filterMap (·.dst) = (List.range m).map T.dA := by
   intro m
   induction m with
   | zero => intro _; simp
   | succ m ih =>
     intro hm
     have hml : m < ops.toList.length := by simp; omega
     rw [List.take_succ_eq_append_getElem hml, List.filterMap_append, ih (by omega), List.range_succ, List.map_append]
     have := hdst m (by omega)
     rw [<- Array.getElem?_toList, gE_ hml, Option.bind_some] at this
     rw [List.filterMap_cons_some this]
     rfl
  intro i
  rw [hall n (nr_ _)]
 rw [hlist] at hnd
 intro i j hi hj e
 have := List.pairwise_iff_getElem.1 (List.nodup_iff_pairwise_ne.1 hnd)
 rcases Nat.lt_trichotomy i j with h | h | h
 . exact absurd (by rw [List.getElem_map, List.getElem_map, List.getElem_range, List.getElem_range]; exact e) (this i j (by simpa using hi) (by simpa using hj) h)
 . exact h
 . exact absurd (by rw [List.getElem_map, List.getElem_map, List.getElem_range, List.getElem_range]; exact e.symm) (this j i (by simpa using hj) (by simpa using hi) h)
theorem b8x {K : Fs -> Prop} {H0 : Heap} {rs : List Loc} (hn : n <= ops.size) : ∀ (m k : Nat) (l : List Oper) (s : Fs) (As : List Heap), n - k = m -> k <= n -> As.length = k -> l = (ops.toList.take n).drop k -> awH P c ops n K H0 rs k l s As ->
 ∃ T : Trace, T.sA k = s /\ (∀ j A, As[j]? = some A -> T.AA j = A) /\ TraceOk P c ops n H0 rs k T /\ K (T.sA n)
 | 0, k, l, s, As, hm, hk, hA, hl, h => by
   have : k = n := by omega
   subst this
   refine ⟨⟨fun _ => s, fun _ => 0, fun _ => .undef, fun j => (As[j]?).getD noH⟩, rfl, fun j A hj => by simp [hj], ⟨fun i hi hi' => by omega⟩, ?_⟩
   have hnil : l = [] := by rw [hl]; simp
   subst hnil
   exact h
 | m + 1, k, l, s, As, hm, hk, hA, hl, h => by
   have hkn : k < n := by omega
   have hks : k < (ops.toList.take n).length := by simp; omega
   have hks' : k < ops.toList.length := by simp; omega
   have hd : (ops.toList.take n).drop k = (ops.toList.take n)[k] :: (ops.toList.take n).drop (k + 1) := List.drop_eq_getElem_cons hks
   have hget : (ops.toList.take n)[k] = ops.toList[k] := List.getElem_take
   rw [hl, hd, hget] at h
   simp only [awH, hkn, if_true] at h
   obtain ⟨d, v, A, Hn, kl, hq, hdep, hfr, hkl, hneed, h⟩ := h
   obtain ⟨T, h1, hAs, h2, h3⟩ := b8x hn m (k + 1) _ _ (As ++ [A]) (by omega) hkn (by simp [hA]) rfl h
   have hAk : T.AA k = A := hAs k A (by rw [List.getElem?_append_right (by omega)]; simp [hA])
   refine ⟨⟨fun i => if i = k then s else T.sA i, fun i => if i = k then d else T.dA i, fun i => if i = k then v else T.vA i, T.AA⟩, by simp, fun j B hj => hAs j B (by rw [List.getElem?_append_left (by rw [List.getElem?_eq_some_iff] at hj; exact hj.1)]; exact hj), ⟨fun i hi hi' => ?_⟩, ?_⟩
   . by_cases e : i = k
     . subst e
       refine ⟨ops.toList[i], Hn, kl, by rw [<- Array.getElem?_toList, gE_ hks'], ?_, hdep, ?_, fun l hl => ?_, fun l ob hl => ?_, ?_⟩
       . simpa [hAk] using hq
       . simpa [hAk] using hfr
       . obtain ⟨g1, g0, g2, g3⟩ := hkl l hl
         refine ⟨by rw [hAk]; exact g1, g0, g2, fun j hj hne => ?_⟩
         have hjA : j < As.length := by omega
         rw [hAs j As[j] (by rw [List.getElem?_append_left hjA, gE_ hjA])] at hne
         exact g3 j _ (gE_ hjA) hne
       . rcases hneed l ob hl with g | ⟨g, g'⟩ | ⟨g0, j, Aj, g1, g2, g3⟩
         . exact .inl g
         . exact .inr (.inl ⟨g, by simpa using g'⟩)
         . have hji : j < i := by have := (List.getElem?_eq_some_iff.1 g1).1; omega
           exact .inr (.inr ⟨g0, j, hji, g2, by rw [hAs j Aj (by rw [List.getElem?_append_left (by omega)]; exact g1)]; exact g3⟩)
       . have : i + 1 ≠ i := by omega
         simp only [this, if_false, if_true, hAk]
         exact h1
     . have e2 : i + 1 ≠ k := by omega
       simp only [e, e2, if_false]
       exact h2.step i (by omega) hi'
   . have : n ≠ k := by omega
     simp only [this, if_false]
     exact h3
theorem d0p {tail : Fs -> Prop} {Q : Exit -> Act -> World -> Prop} {id : Nat} {s : Fs} {a : Act} {w : World} (hm : P.follows .mixedOrders = true) {H0 : Heap} {rs : List Loc} (hB : b7q ops n = true) (hsub : HSub H0 s.H) (hH : awH P c ops n tail H0 rs 0 (ops.toList.take n) s [])
 (htail : ∀ s1 a w, tail s1 -> Rel X c s1 a w -> wpList P ops Q (ops.toList.drop n) a w) (h : Rel X c s a w) : (Code.region id ops true).wp P Q a w := by
 have hdrew : Rel X c s a { w with drawn := w.drawn + 1 } := by
  obtain ⟨hN, F, m, h1, h2, hR⟩ := h
  exact ⟨hN, F, m, h1, h2, hR.world (nr_ _) (fun _ _ => rfl) rfl rfl rfl⟩
 refine wp_region_any hm ?_
 simp only [b7q, bA_, Bool.or_eq_true, beq_iff_eq, dE_] at hB
 obtain ⟨hn, hsc, hsq, hbk, hnd⟩ := hB
 obtain ⟨T, hT0, _, hT, hk⟩ := b8x hn n 0 _ s [] (by omega) (Nat.zero_le _) rfl (by simp) hH
 have inv0 : HeadInv .any ops n (Array.replicate ops.size false) :=
  ⟨by simp, fun j oj _ hl => (by rw [getD_replicate_false] at hl; cases hl), fun t _ ht => getD_in (by simpa using ht) (getD_replicate_false _ _)⟩
 have hag : Agree n T (Array.replicate ops.size false) s := ⟨fun j _ hl => (by rw [getD_replicate_false] at hl; cases hl), fun t _ => by rw [hT0], by rw [hT0], by rw [hT0], fun j _ hl => (by rw [getD_replicate_false] at hl; cases hl), fun l _ => by rw [hT0]⟩
 have hcount : ((List.range n).filter fun i => !(Array.replicate ops.size false).getD i true).length = n := by
  rw [List.filter_eq_self.2, List.length_range]
  intro i hi
  rw [List.mem_range] at hi
  have hio : i < ops.size := by omega
  simp [Array.getD, hio]
 have := c8j (Q := Q) hT (by rw [hT0]; exact hsub) (c1k hT hn hnd) hn hsc hsq hbk (fun a w h' => htail _ a w hk h') n _ s a _ hcount inv0 hag hdrew
 rw [show n + (ops.size - n) = ops.size by omega] at this
 exact this
theorem d7n {K : Fs -> Prop} {Q : Exit -> Act -> World -> Prop} {id : Nat} {s : Fs} {a : Act} {w : World} (hK : ∀ s a w, Rel X c s a w -> K s -> Q .normal a w) (h : Rel X c s a w) (hs : e4g P c ops K s) : (Code.region id ops true).wp P Q a w := by
 obtain ⟨hm, n, H0, rs, hB, hsub, hH⟩ := hs
 have hdrew : Rel X c s a { w with drawn := w.drawn + 1 } := by
  obtain ⟨hN, F, m, h1, h2, hR⟩ := h
  exact ⟨hN, F, m, h1, h2, hR.world (nr_ _) (fun _ _ => rfl) rfl rfl rfl⟩
 refine wp_region_any hm ?_
 simp only [b7q, bA_, Bool.or_eq_true, beq_iff_eq, dE_] at hB
 obtain ⟨hn, hsc, hsq, hbk, hnd⟩ := hB
 obtain ⟨T, hT0, _, hT, htail⟩ := c3f hn n 0 _ s [] (by omega) (Nat.zero_le _) rfl (by simp) hH
 have inv0 : HeadInv .any ops n (Array.replicate ops.size false) :=
  ⟨by simp, fun j oj _ hl => (by rw [getD_replicate_false] at hl; cases hl), fun t _ ht => getD_in (by simpa using ht) (getD_replicate_false _ _)⟩
 have hag : Agree n T (Array.replicate ops.size false) s := ⟨fun j _ hl => (by rw [getD_replicate_false] at hl; cases hl), fun t _ => by rw [hT0], by rw [hT0], by rw [hT0], fun j _ hl => (by rw [getD_replicate_false] at hl; cases hl), fun l _ => by rw [hT0]⟩
 have hcount : ((List.range n).filter fun i => !(Array.replicate ops.size false).getD i true).length = n := by
  rw [List.filter_eq_self.2, List.length_range]
  intro i hi
  rw [List.mem_range] at hi
  have hio : i < ops.size := by omega
  simp [Array.getD, hio]
 have := c8j (Q := Q) hT (by rw [hT0]; exact hsub) (c1k hT hn hnd) hn hsc hsq hbk (fun a w h' => b5g hK _ _ a w h' htail) n _ s a _ hcount inv0 hag hdrew
 rw [show n + (ops.size - n) = ops.size by omega] at this
 exact this
end
def a4b (ops : Array Oper) : Option Nat := (ops.back?).bind (·.dst)
def b0w (tm : Asg) (n : Nat) : List Nat -> Asg
 | [] => []
 | t :: r => if t < n then b0w tm n r else (t, lk tm t) :: b0w tm n r
def Fs.clean (s : Fs) (k : Option Nat) (keep : List Nat) : Fs :=
 { s with tm := match k with
   | some d => if d < s.vars.length then b0w s.tm s.vars.length keep else match lk s.tm d with
     | .bool b => (d, .bool b) :: b0w s.tm s.vars.length keep
     | _ => b0w s.tm s.vars.length keep
   | none => b0w s.tm s.vars.length keep }
def Wk (s1 s : Fs) : Prop := ∀ (X : Ctx) (c : Cfg) (a : Act) (w : World), Rel X c s a w -> Rel X c s1 a w
theorem Wk.refl (s : Fs) : Wk s s := fun _ _ _ _ h => h
theorem Wk.trans {s1 s2 s3 : Fs} (h : Wk s1 s2) (h' : Wk s2 s3) : Wk s1 s3 := fun X c a w hr => h X c a w (h' X c a w hr)
theorem Fs.le.wk {s1 s : Fs} (h : s1.le s) : Wk s1 s := fun _ _ _ _ hr => hr.weaken h
theorem b0n (tm : Asg) (n : Nat) : ∀ (keep : List Nat) (t : Nat), lk (b0w tm n keep) t = .undef \/ lk (b0w tm n keep) t = lk tm t
 | [], t => .inl rfl
 | d :: r, t => by
   unfold b0w
   split
   . exact b0n tm n r t
   . simp only [lk]
     split
     . rename_i e; subst e; exact .inr rfl
     . exact b0n tm n r t
theorem b5c (s : Fs) (k : Option Nat) (keep : List Nat) : (s.clean k keep).le s := by
 refine ⟨rfl, fun t => ?_, fun l => .inl rfl⟩
 simp only [Fs.get, Fs.clean]
 by_cases ht : t < s.vars.length
 . simp only [ht, if_true]; exact .inr trivial
 . simp only [ht, if_false]
   cases k with
   | none => exact b0n _ _ _ _
   | some d =>
     simp only
     split
     . exact b0n _ _ _ _
     . split
       . rename_i b hb
         simp only [lk]
         split
         . rename_i e; subst e; rw [hb]; exact .inr rfl
         . exact b0n _ _ _ _
       . exact b0n _ _ _ _
theorem f7u (s : Fs) (ix : List Nat) : Wk { s with ix := ix } s := fun X c a w ⟨hN, F, m, h1, h2, h⟩ => ⟨hN, F, m, h1, h2, { h with val := h.val }⟩
def Gk (c : Cfg) (s1 s : Fs) : Prop := ∀ (X : Ctx) (a : Act) (w : World), Rel X c s a w -> Rel X c s1 a w
theorem Wk.gk {c : Cfg} {s1 s : Fs} (h : Wk s1 s) : Gk c s1 s := fun X a w hr => h X c a w hr
theorem Gk.trans {c : Cfg} {s1 s2 s3 : Fs} (h : Gk c s1 s2) (h' : Gk c s2 s3) : Gk c s1 s3 := fun X a w hr => h X a w (h' X a w hr)
def b7s (s : Fs) : Operand -> Option Bool
 | .tmp t => match s.get t with
   | .bool b => some b
   | _ => none
 | .const (.bool b) => some b
 | _ => none
theorem d6q {X : Ctx} {c : Cfg} {s : Fs} {a : Act} {w : World} {x : Operand} {b : Bool} (h : Rel X c s a w) (hx : b7s s x = some b) : a.eval x = .bool b := by
 obtain ⟨_, F, m, _, _, h⟩ := h
 unfold b7s at hx
 split at hx
 . rename_i t
   split at hx
   . rename_i b' hb'
     obtain rfl : b' = b := by simpa using hx
     have hv := h.val t
     rw [hb'] at hv
     show a.tmps.getD t undef = _
     generalize a.tmps.getD t undef = v at hv
     cases hv
     rfl
   . cases hx
 . obtain rfl := by simpa using hx
   rfl
 . cases hx
def RWp (P : Program) (c : Cfg) (ops : Array Oper) (s : Fs) (Φ : Fs -> Prop) : Prop :=
 ∀ (X : Ctx) (a : Act) (w : World) (Q : Exit -> Act -> World -> Prop), Rel X c s a w -> (∀ s1 a' w', Φ s1 -> Rel X c s1 a' w' -> Q .normal a' w') -> wpList P ops Q ops.toList a w
def RWpD (P : Program) (c : Cfg) (ops : Array Oper) (s : Fs) (Φ : Fs -> Prop) : Prop :=
 ∀ (id : Nat) (X : Ctx) (a : Act) (w : World) (Q : Exit -> Act -> World -> Prop), Rel X c s a w -> (∀ s1 a' w', Φ s1 -> Rel X c s1 a' w' -> Q .normal a' w') -> (Code.region id ops true).wp P Q a w
def a2s (P : Program) (c : Cfg) : Code -> (Exit -> Fs -> Prop) -> Fs -> Prop
 | .skip, Q, s => Q .normal s
 | .label _, Q, s => Q .normal s
 | .region _ ops false, Q, s => wOps P c ops ops.toList (fun s' => Q .normal (s'.clean (a4b ops) c.keep)) s \/ ∃ Φ, RWp P c ops s Φ /\ ∀ s', Φ s' -> Q .normal (s'.clean (a4b ops) c.keep)
 | .region _ ops true, Q, s => e4g P c ops (fun s' => Q .normal (s'.clean (a4b ops) c.keep)) s \/ ∃ Φ, RWpD P c ops s Φ /\ ∀ s', Φ s' -> Q .normal (s'.clean (a4b ops) c.keep)
 | .seq x y, Q, s => a2s P c x (fun e s' => match e with
   | .normal => a2s P c y Q s'
   | e => Q e s') s
 | .cond x t e, Q, s => match b7s s x with
   | some true => a2s P c t Q s
   | some false => a2s P c e Q s
   | none => False
 | .block id b, Q, s => a2s P c b (fun e s' => match e with
   | .exit i => if i = id then Q .normal s' else Q (.exit i) s'
   | e => Q e s') s
 | .loop b, Q, s => ∃ (I : Nat -> Fs -> Prop), (∃ n s1, Gk c s1 s /\ I n s1) /\ ∀ n s, I n s -> a2s P c b (fun e s' => match e with
   | .normal => ∃ m s1, m < n /\ Gk c s1 s' /\ I m s1
   | e => Q e s') s
 | .exit id, Q, s => Q (.exit id) s
 | .ret, Q, s => Q .ret s
 | _, _, _ => False
theorem a8l {P : Program} {X : Ctx} {c : Cfg} : ∀ (code : Code) (Q : Exit -> Fs -> Prop) (Q' : Exit -> Act -> World -> Prop), (∀ e s a w, Rel X c s a w -> Q e s -> Q' e a w) ->
 ∀ (s : Fs) (a : Act) (w : World), Rel X c s a w -> a2s P c code Q s -> code.wp P Q' a w
 | .skip, Q, Q', hQ, s, a, w, h, hs => wp_skip (hQ _ s a w h hs)
 | .label _, Q, Q', hQ, s, a, w, h, hs => wp_label (hQ _ s a w h hs)
 | .region id ops false, Q, Q', hQ, s, a, w, h, .inl hs => wp_region_list (b5g (K := fun s' => Q .normal (s'.clean (a4b ops) c.keep)) (fun s' a' w' h' hq => hQ _ _ a' w' (h'.weaken (b5c s' _ _)) hq) ops.toList s a w h hs)
 | .region id ops false, Q, Q', hQ, s, a, w, h, .inr ⟨Φ, hR, hs⟩ => wp_region_list (hR X a w _ h fun s' a' w' h1 h' => hQ _ _ a' w' (h'.weaken (b5c s' _ _)) (hs s' h1))
 | .region id ops true, Q, Q', hQ, s, a, w, h, .inl hs => d7n (K := fun s' => Q .normal (s'.clean (a4b ops) c.keep)) (fun s' a' w' h' hq => hQ _ _ a' w' (h'.weaken (b5c s' _ _)) hq) h hs
 | .region id ops true, Q, Q', hQ, s, a, w, h, .inr ⟨Φ, hR, hs⟩ => hR id X a w _ h fun s' a' w' h1 h' => hQ _ _ a' w' (h'.weaken (b5c s' _ _)) (hs s' h1)
 | .seq x y, Q, Q', hQ, s, a, w, h, hs => wp_seq (a8l x _ _ (fun e s' a' w' h' hq => by
  cases e with
  | normal => exact a8l y Q Q' hQ s' a' w' h' hq
  | _ => exact hQ _ s' a' w' h' hq) s a w h hs)
 | .cond x t e, Q, Q', hQ, s, a, w, h, hs => by
   simp only [a2s] at hs
   split at hs
   . rename_i hc; exact wp_cond_true (d6q h hc) (a8l t Q Q' hQ s a w h hs)
   . rename_i hc; exact wp_cond_false (d6q h hc) (a8l e Q Q' hQ s a w h hs)
   . exact hs.elim
 | .block id b, Q, Q', hQ, s, a, w, h, hs => wp_block (a8l b _ _ (fun e s' a' w' h' hq => by
  cases e with
  | exit i =>
    simp only [Exit.inBlock]
    simp only at hq
    split
    . rename_i e; rw [if_pos e] at hq; exact hQ _ s' a' w' h' hq
    . rename_i e; rw [if_neg e] at hq; exact hQ _ s' a' w' h' hq
  | _ => exact hQ _ s' a' w' h' hq) s a w h hs)
 | .loop b, Q, Q', hQ, s, a, w, h, hs => by
   obtain ⟨I, ⟨n, s1, hle, hI⟩, hround⟩ := hs
   refine wp_loop_rounds (n + 1) ?_
   have key : ∀ (k n : Nat) (s : Fs) (a : Act) (w : World), n < k -> I n s -> Rel X c s a w -> Code.rounds P b Q' k a w := by
    intro k
    induction k with
    | zero => intro n s a w hm; omega
    | succ k ih =>
      intro n s a w hm hI h
      rw [rounds_succ]
      exact a8l b _ _ (fun e s' a' w' h' hq => by
       cases e with
       | normal =>
         obtain ⟨m, s2, hm2, hle2, hI2⟩ := hq
         exact ih m s2 a' w' (by omega) hI2 (hle2 X a' w' h')
       | _ => exact hQ _ s' a' w' h' hq) s a w h (hround n s hI)
   exact key _ n s1 a w (by omega) hI (hle X a w h)
 | .exit id, Q, Q', hQ, s, a, w, h, hs => wp_exit (hQ _ s a w h hs)
 | .ret, Q, Q', hQ, s, a, w, h, hs => wp_ret (hQ _ s a w h hs)
 | .rangeFunc .., Q, Q', hQ, s, a, w, h, hs => (hs : False).elim
 | .scope _, Q, Q', hQ, s, a, w, h, hs => (hs : False).elim
 | .goto _, Q, Q', hQ, s, a, w, h, hs => (hs : False).elim
 | .refuse _, Q, Q', hQ, s, a, w, h, hs => (hs : False).elim
def resV (P : Program) (s : Fs) : ResultVar -> Option FV
 | .tmp t => some (s.get t)
 | .cell t ty => b4f P s.H ty (s.get t)
def resL (P : Program) (s : Fs) : List ResultVar -> Option (List FV)
 | [] => some []
 | x :: r => (resV P s x).bind fun v => (resL P s r).map (v :: ·)
def Fs.init (nv : Nat) (args : List FV) (H : Heap) : Fs := { vars := args ++ List.replicate (nv - args.length) .undef, tm := [], H := H, ix := [] }
def a3n : List FV -> FV
 | [x] => x
 | l => .tup l
def c1v (a : Act) : ResultVar -> Sem Value
 | .tmp t => pure (a.tmps.getD t undef)
 | .cell x t => do loadVar t (<- asAddr (a.tmps.getD x undef))
theorem e6e {P : Program} {X : Ctx} {F : Nat -> Prop} {m : Loc -> Nat × Nat} {s : Fs} {a : Act} {w : World} (h : RelX X F m s a w) {x : ResultVar} {v : FV} (hv : resV P s x = some v) :
 ∃ u, (c1v a x).run P w = .ok u w /\ RF w F (fun l => s.H l ≠ none) m v u := by
 cases x with
 | tmp t =>
   obtain rfl := by simpa [resV] using hv
   exact ⟨_, rfl, h.val t⟩
 | cell t ty =>
   obtain ⟨u, h1, h2⟩ := c8d (P := P) h.heap hv (h.val t)
   refine ⟨u, ?_, h2⟩
   have hp : ∃ ad, a.tmps.getD t undef = .pointer (some ad) := by
    have ht := h.val t
    simp only [resV] at hv
    unfold b4f at hv
    split at hv
    . cases hv
    . split at hv
      . rename_i hg; rw [hg] at ht; generalize a.tmps.getD t undef = z at ht; cases ht; exact ⟨_, rfl⟩
      . rename_i hg; rw [hg] at ht; generalize a.tmps.getD t undef = z at ht; cases ht; exact ⟨_, rfl⟩
      . cases hv
    . split at hv
      . rename_i hg; rw [hg] at ht; generalize a.tmps.getD t undef = z at ht; cases ht; exact ⟨_, rfl⟩
      . rename_i hg; rw [hg] at ht; generalize a.tmps.getD t undef = z at ht; cases ht; exact ⟨_, rfl⟩
      . cases hv
    . split at hv
      . rename_i hg; rw [hg] at ht; generalize a.tmps.getD t undef = z at ht; cases ht; exact ⟨_, rfl⟩
      . rename_i hg; rw [hg] at ht; generalize a.tmps.getD t undef = z at ht; cases ht; exact ⟨_, rfl⟩
      . cases hv
   obtain ⟨ad, hp⟩ := hp
   rw [hp] at h1
   simp only [c1v, hp, asAddr]
   simpa [Instr.loadAt, Instr.sureAddr] using h1
theorem d2s {P : Program} {X : Ctx} {F : Nat -> Prop} {m : Loc -> Nat × Nat} {s : Fs} {a : Act} {w : World} (h : RelX X F m s a w) :
 ∀ (l : List ResultVar) (vs : List FV), resL P s l = some vs -> ∃ us : List Value, (l.mapM (c1v a)).run P w = .ok us w /\ RFs w F (fun l => s.H l ≠ none) m vs us
 | [], vs, hv => by
   simp only [resL, sE_] at hv
   subst hv
   exact ⟨[], by simp, .nil⟩
 | x :: l, vs, hv => by
   simp only [resL, Option.bind_eq_some_iff, oM_] at hv
   obtain ⟨v, hv, vs', hvs, rfl⟩ := hv
   obtain ⟨u, g1, g2⟩ := e6e h hv
   obtain ⟨us, k1, k2⟩ := d2s h l vs' hvs
   refine ⟨u :: us, ?_, .cons _ _ _ _ g2 k2⟩
   rw [List.mapM_cons]
   simp only [Sem.run_bind, g1, k1, Result.andThen_ok, Sem.run_pure]
theorem a9z {α : Type} (l : List α) (n t : Nat) (u : α) : (l ++ List.replicate n u).getD t u = l.getD t u := by
 rw [gD_, gD_]
 rcases Nat.lt_or_ge t l.length with h | h
 . rw [List.getElem?_append_left h]
 . rw [List.getElem?_append_right h, gn_ h]
   rcases Nat.lt_or_ge (t - l.length) n with h' | h'
   . simp [h']
   . rw [gn_ (by simpa using h')]
theorem e0r (nv : Nat) (args : List FV) (H : Heap) (t : Nat) : (Fs.init nv args H).get t = args.getD t .undef := by
 by_cases h : t < (Fs.init nv args H).vars.length
 . unfold Fs.get
   rw [if_pos h]; exact a9z args _ t .undef
 . unfold Fs.get
   rw [if_neg h]
   show FV.undef = _
   rw [gD_, gn_]
   . rfl
   . simp [Fs.init] at h; omega
theorem RFs.getD {w : World} {F : Nat -> Prop} {U : Loc -> Prop} {m : Loc -> Nat × Nat} : ∀ {as : List FV} {vs : List Value}, RFs w F U m as vs -> ∀ t, RF w F U m (as.getD t .undef) (vs.getD t undef)
 | _, _, .nil, t => by simpa using RF.undef _
 | _, _, .cons a v as vs h hs, 0 => by simpa using h
 | _, _, .cons a v as vs h hs, t + 1 => by simpa using RFs.getD hs t
theorem d5r {P : Program} {f : FuncId} {fn : Func} {code : Code} {c : Cfg} {nv : Nat} {args : List FV} {H : Heap} {R : Fs -> List FV -> Prop} (hf : P.funcs[f]? = some fn) (hb : fn.body = some code) (hN : c.N = fn.ntmps)
 (hargs : args.length <= nv) (hnv : nv <= fn.ntmps) (h : ∀ (X : Ctx) (Q' : Exit -> Act -> World -> Prop), (∀ e s a w, Rel X c s a w -> ((e = .normal \/ e = .ret) /\ ∃ s1, Wk s1 s /\ ∃ l, resL P s1 fn.results.toList = some l /\ R s1 l) -> Q' e a w) -> ∀ a w, Rel X c (Fs.init nv args H) a w -> code.wp P Q' a w)
 (hL : ∀ l, H l ≠ none -> c.L l) (w : World) (F : Nat -> Prop) (m : Loc -> Nat × Nat) (vs : List Value) (hF : ∀ y, F y -> y < w.heap.size) (hG : a6s c.G F w) (hv : RFs w F (fun l => H l ≠ none) m args vs) (hH : HeapR w F m H) :
 Calls P f vs.toArray w fun e w' => ∃ (v : Value) (s1 : Fs) (l : List FV) (F' : Nat -> Prop) (m' : Loc -> Nat × Nat) (a : Act), e = .returned v /\ R s1 l /\ (∀ y, F y -> F' y) /\ (∀ y, F' y -> F y \/ w.heap.size <= y) /\ RelX ⟨w, F, H, m⟩ F' m' s1 a w' /\
  RF w' F' (fun l => s1.H l ≠ none) m' (a3n l) v := by
 have hlen := hv.length
 let X : Ctx := ⟨w, F, H, m⟩
 let a0 : Act := { tmps := vs.toArray ++ Array.replicate (fn.ntmps - vs.toArray.size) undef, defers := [] }
 have hget : ∀ t, a0.tmps.getD t undef = vs.getD t undef := fun t => by
  show (vs.toArray ++ Array.replicate (fn.ntmps - vs.toArray.size) undef).getD t undef = _
  rw [Array.getD_eq_getD_getElem?, <- Array.getElem?_toList]
  simp only [Array.toList_append, Array.toList_replicate]
  rw [<- gD_]
  exact a9z vs _ t undef
 have hsz : a0.tmps.size = fn.ntmps := by
  show (vs.toArray ++ Array.replicate (fn.ntmps - vs.toArray.size) undef).size = _
  simp; omega
 have hrel : Rel X c (Fs.init nv args H) a0 w := by
  refine ⟨by rw [hN]; exact hsz, F, m, ⟨fun _ h => h, hG, fun p hp ⟨l, hl, e⟩ => (hH.old l hl).2 (by rw [show (m l).1 = p.1 from e]; exact (hG p hp).1), hL⟩, fun y hy => .inl hy, ?_⟩
  exact { df := rfl, vsz := by rw [hsz]; simp only [Fs.init, List.length_append, List.length_replicate]; omega, val := fun t => by rw [e0r, hget]; exact hv.getD t, heap := hH, own := fun l hl => .inl ⟨l, hl, rfl⟩,
          ext := fun l hl => hl, mfix := fun _ _ => rfl, frz := hF, keep := fun _ _ _ => rfl, size := nr_ _, os := rfl, tape := rfl, output := rfl }
 refine calls_of_wp hf hb ?_
 refine h X _ (fun e s a w' h' hq => ?_) a0 w hrel
 obtain ⟨he, s1, hwk, l, hl, hR0⟩ := hq
 obtain ⟨hN', F', m', k1, k2, hR⟩ := hwk X c a w' h'
 obtain ⟨us, m1, m2⟩ := d2s hR _ _ hl
 have hrun : ∃ v, (results fn a.tmps).run P w' = .ok v w' /\ RF w' F' (fun l => s1.H l ≠ none) m' (a3n l) v := by
  have hm : (fn.results.mapM (c1v a)).run P w' = .ok us.toArray w' := by
   rw [Array.mapM_eq_mapM_toList]
   simp only [Sem.run_map, m1, Result.andThen_ok]
  have hres : results fn a.tmps = (do let vs <- fn.results.mapM (c1v a); pure (if h : vs.size = 1 then vs[0] else .tuple vs) : Sem Value) := by
   unfold results
   congr 1
  rw [hres, Sem.run_bind, hm]
  simp only [Result.andThen_ok, Sem.run_pure]
  have hul := m2.length
  by_cases h1 : us.toArray.size = 1
  . rw [dif_pos h1]
    have hus : us.length = 1 := by simpa using h1
    match us, l, hus, hul, m2 with
    | [u], [x], _, _, m2 =>
      obtain ⟨v, hv, hrv⟩ := m2.single
      simp only [List.cons.injEq, and_true] at hv
      subst hv
      exact ⟨u, rfl, hrv⟩
  . rw [dif_neg h1]
    refine ⟨_, rfl, ?_⟩
    have hus : us.length ≠ 1 := by simpa using h1
    have : a3n l = .tup l := by
     match l, hul with
     | [], _ => rfl
     | [x], hul => exact absurd (by rw [<- hul]; rfl) hus
     | x :: y :: l, _ => rfl
    rw [this]
    exact .tup l us m2
 obtain ⟨v, hv1, hv2⟩ := hrun
 have hpost : a.defers = [] /\ ∃ v, (results fn a.tmps).run P w' = .ok v w' /\ ∃ (v' : Value) (s1 : Fs) (l : List FV) (F' : Nat -> Prop) (m' : Loc -> Nat × Nat) (a : Act), Ending.returned v = .returned v' /\ R s1 l /\ (∀ y, F y -> F' y) /\
  (∀ y, F' y -> F y \/ w.heap.size <= y) /\ RelX ⟨w, F, H, m⟩ F' m' s1 a w' /\ RF w' F' (fun l => s1.H l ≠ none) m' (a3n l) v' :=
  ⟨hR.df, v, hv1, v, s1, l, F', m', a, rfl, hR0, k1.up, k2, hR, hv2⟩
 rcases he with rfl | rfl
 . exact hpost
 . exact hpost
theorem d5s {P : Program} {f : FuncId} {fn : Func} {code : Code} {c : Cfg} {nv : Nat} {args : List FV} {H : Heap} {R : Fs -> List FV -> Prop} (hf : P.funcs[f]? = some fn) (hb : fn.body = some code) (hN : c.N = fn.ntmps)
 (hargs : args.length <= nv) (hnv : nv <= fn.ntmps) (h : a2s P c code (fun e s => (e = .normal \/ e = .ret) /\ ∃ s1, Wk s1 s /\ ∃ l, resL P s1 fn.results.toList = some l /\ R s1 l) (Fs.init nv args H))
 (hL : ∀ l, H l ≠ none -> c.L l) (w : World) (F : Nat -> Prop) (m : Loc -> Nat × Nat) (vs : List Value) (hF : ∀ y, F y -> y < w.heap.size) (hG : a6s c.G F w) (hv : RFs w F (fun l => H l ≠ none) m args vs) (hH : HeapR w F m H) :
 Calls P f vs.toArray w fun e w' => ∃ (v : Value) (s1 : Fs) (l : List FV) (F' : Nat -> Prop) (m' : Loc -> Nat × Nat) (a : Act), e = .returned v /\ R s1 l /\ (∀ y, F y -> F' y) /\ (∀ y, F' y -> F y \/ w.heap.size <= y) /\ RelX ⟨w, F, H, m⟩ F' m' s1 a w' /\
  RF w' F' (fun l => s1.H l ≠ none) m' (a3n l) v :=
 d5r hf hb hN hargs hnv (fun X Q' hQ a w hr => a8l code _ _ hQ _ a w hr h) hL w F m vs hF hG hv hH
def KEnd (P : Program) (res : List ResultVar) (r : FV) (H' : Heap) (e : Exit) (s : Fs) : Prop :=
 (e = .normal \/ e = .ret) /\ ∃ s1, Wk s1 s /\ ∃ l, resL P s1 res = some l /\ (s1.H = H' /\ a3n l = r)
theorem g0b {P : Program} {f : FuncId} {fn : Func} {code : Code} {c : Cfg} {nv : Nat} {args : List FV} {H : Heap} {r : FV} {H' : Heap} (hf : P.funcs[f]? = some fn) (hb : fn.body = some code) (hN : c.N = fn.ntmps)
 (hargs : args.length <= nv) (hnv : nv <= fn.ntmps) (hL : ∀ l, H l ≠ none -> c.L l) (h : a2s P c code (KEnd P fn.results.toList r H') (Fs.init nv args H)) : FC P c.G f args H r H' := by
 intro w F m vs hF hG hv hH
 refine (d5s hf hb hN hargs hnv h hL w F m vs hF hG hv hH).mono ?_
 rintro e w' ⟨v, s1, l, F', m', a, rfl, ⟨rfl, rfl⟩, k1, k2, hR, hv2⟩
 refine ⟨v, F', m', rfl, k1, fun y hy => ⟨k2 y hy, hR.frz y hy⟩, fun l hl => ⟨hR.mfix l hl, hR.ext l hl⟩, hv2, hR.heap, fun l hl => ?_, hR.size, fun y hy hn => hR.keep y hy fun ⟨l, h1, h2⟩ => hn l h1 h2, hR.os, hR.tape, hR.output⟩
 rcases hR.own l hl with ⟨k, h1, h2⟩ | h1
 . exact .inl ⟨k, h1, h2⟩
 . exact .inr h1
mutual
def nl : FV -> Bool
 | .undef | .int .. | .bool _ | .str _ | .nilp | .nils | .nilm | .nilf | .emp => true
 | .list _ xs => nlss xs
 | .ref cs => nls cs
 | .agg cs => nls cs
 | .tup cs => nls cs
 | .clo _ a b => nls a && nls b
 | .ptr .. | .sl .. | .mp _ => false
def nls : List FV -> Bool
 | [] => true
 | x :: xs => nl x && nls xs
def nlss : List (List FV) -> Bool
 | [] => true
 | x :: xs => nls x && nlss xs
end
theorem e6v (l : List FV) : nls l = l.all nl := by
 induction l with
 | nil => rfl
 | cons x l ih => simp [nls, ih]
theorem a5q (l : List (List FV)) : nlss l = nls l.flatten := by
 induction l with
 | nil => rfl
 | cons x l ih => simp only [nlss, ih, List.flatten_cons, e6v, List.all_append]
section
variable {w w' : World} {F F' : Nat -> Prop} {U U' : Loc -> Prop} {m m' : Loc -> Nat × Nat}
mutual
theorem RF.nameless {a : FV} {v : Value} (h : RF w F U m a v) (ha : nl a = true) (U' : Loc -> Prop) (m' : Loc -> Nat × Nat) : RF w F U' m' a v :=
 match h with
 | .undef v => .undef v
 | .int k n => .int k n
 | .bool b => .bool b
 | .str s => .str s
 | .list sz xs A cap vs hl hc hm h => .list sz xs A cap vs hl hc hm (RFs.nameless h (by rw [nl, a5q] at ha; exact ha) U' m')
 | .ref cs a vs hF hm h => .ref cs a vs hF hm (RFs.nameless h ha U' m')
 | .agg cs vs h => .agg cs vs (RFs.nameless h ha U' m')
 | .tup cs vs h => .tup cs vs (RFs.nameless h ha U' m')
 | .ptr .. => by simp [nl] at ha
 | .nilp => .nilp
 | .sl .. => by simp [nl] at ha
 | .sl0 .. => by simp [nl] at ha
 | .nils => .nils
 | .mp .. => by simp [nl] at ha
 | .nilm => .nilm
 | .clo f first caps us vs h1 h2 => by
   simp only [nl, bA_] at ha
   exact .clo f first caps us vs (RFs.nameless h1 ha.1 U' m') (RFs.nameless h2 ha.2 U' m')
 | .nilf => .nilf
 | .emp A => .emp A
theorem RFs.nameless {as : List FV} {vs : List Value} (h : RFs w F U m as vs) (ha : nls as = true) (U' : Loc -> Prop) (m' : Loc -> Nat × Nat) : RFs w F U' m' as vs :=
 match h with
 | .nil => .nil
 | .cons a v as vs h hs => by
   simp only [nls, bA_] at ha
   exact .cons a v as vs (RF.nameless h ha.1 U' m') (RFs.nameless hs ha.2 U' m')
end
end
mutual
def frz (H : Heap) : Nat -> FV -> Option FV
 | 0, _ => none
 | n + 1, .sl l sz off len => match H l with
   | some (.cells _ sz' xs) => if decide (sz' = sz) && decide (off + len <= xs.length) then (frzR H n ((xs.drop off).take len)).map (.list sz) else none
   | _ => none
 | n + 1, .agg cs => if nls cs then some (.agg cs) else (frzs H n cs).map .agg
 | n + 1, .tup cs => if nls cs then some (.tup cs) else (frzs H n cs).map .tup
 | _ + 1, v => if nl v then some v else none
def frzs (H : Heap) : Nat -> List FV -> Option (List FV)
 | 0, _ => none
 | _ + 1, [] => some []
 | n + 1, x :: xs => (frz H n x).bind fun y => (frzs H n xs).map (y :: ·)
def frzR (H : Heap) : Nat -> List (List FV) -> Option (List (List FV))
 | 0, _ => none
 | n + 1, xs => if nlss xs then some xs else match xs with
   | [] => some []
   | x :: xs => (frzs H n x).bind fun y => (frzR H n xs).map (y :: ·)
end
def frzF (F : Nat -> Prop) (H : Heap) (m : Loc -> Nat × Nat) : Nat -> Prop := fun b => F b \/ ∃ l, Live H m l /\ (m l).1 = b
section
variable {w w' : World} {F F' : Nat -> Prop} {U U' : Loc -> Prop} {m m' : Loc -> Nat × Nat} {H : Heap}
theorem RF.up {a : FV} {v : Value} (h : RF w F U m a v) (ha : nl a = true) : RF w (frzF F H m) (fun _ => False) m' a v :=
 (h.keep (w' := w) (F' := frzF F H m) (U' := U) (m' := m) (fun _ h => .inl h) (fun _ _ => rfl) (fun _ h => h) (fun _ _ => rfl)).nameless ha _ _
theorem RFs.up {a : List FV} {v : List Value} (h : RFs w F U m a v) (ha : nls a = true) : RFs w (frzF F H m) (fun _ => False) m' a v :=
 (h.keep (w' := w) (F' := frzF F H m) (U' := U) (m' := m) (fun _ h => .inl h) (fun _ _ => rfl) (fun _ h => h) (fun _ _ => rfl)).nameless ha _ _
theorem b0a {α : Type} {sz : Nat} : ∀ (n : Nat) (xs : List (List α)), (∀ x ∈ xs, x.length = sz) -> (xs.drop n).flatten = xs.flatten.drop (n * sz)
 | 0, xs, _ => by simp
 | n + 1, [], _ => by simp
 | n + 1, y :: ys, hl => by
   have hy := hl y (by simp)
   rw [List.drop_succ_cons, b0a n ys (fun x hx => hl x (by simp [hx])), List.flatten_cons, Nat.add_mul, Nat.one_mul, Nat.add_comm, <- List.drop_drop]
   rw [show (y ++ ys.flatten).drop sz = ys.flatten by rw [<- hy]; simp]
theorem a9l {α : Type} {sz : Nat} : ∀ (n : Nat) (xs : List (List α)), (∀ x ∈ xs, x.length = sz) -> (xs.take n).flatten = xs.flatten.take (n * sz)
 | 0, xs, _ => by simp
 | n + 1, [], _ => by simp
 | n + 1, y :: ys, hl => by
   have hy := hl y (by simp)
   rw [List.take_succ_cons, List.flatten_cons, a9l n ys (fun x hx => hl x (by simp [hx])), List.flatten_cons, Nat.add_mul, Nat.one_mul, Nat.add_comm, <- hy, List.take_length_add_append]
theorem c7y (hH : HeapR w F m H) : ∀ (n : Nat),
 (∀ (x y : FV) (v : Value), frz H n x = some y -> RF w F (fun l => H l ≠ none) m x v -> RF w (frzF F H m) (fun _ => False) m' y v /\ nl y = true) /\
 (∀ (xs ys : List FV) (vs : List Value), frzs H n xs = some ys -> RFs w F (fun l => H l ≠ none) m xs vs -> RFs w (frzF F H m) (fun _ => False) m' ys vs /\ nls ys = true) /\
 (∀ (xs ys : List (List FV)) (vs : List Value), frzR H n xs = some ys -> RFs w F (fun l => H l ≠ none) m xs.flatten vs -> RFs w (frzF F H m) (fun _ => False) m' ys.flatten vs /\ nlss ys = true /\ ys.length = xs.length /\ ∀ sz, (∀ x ∈ xs, x.length = sz) -> ∀ y ∈ ys, y.length = sz)
 | 0 => ⟨fun _ _ _ h => by simp [frz] at h, fun _ _ _ h => by simp [frzs] at h, fun _ _ _ h => by simp [frzR] at h⟩
 | n + 1 => by
   obtain ⟨i1, i2, i3⟩ := c7y hH n
   refine ⟨fun x y v h hx => ?_, fun xs ys vs h hx => ?_, fun xs ys vs h hx => ?_⟩
   . have d3i : ∀ z, nl z = true -> z = y -> RF w F (fun l => H l ≠ none) m z v -> RF w (frzF F H m) (fun _ => False) m' y v /\ nl y = true := fun z hz e hr => by subst e; exact ⟨hr.up hz, hz⟩
     cases x with
     | sl l sz off len =>
       simp only [frz] at h
       split at h
       . rename_i T sz' xs hl
         split at h
         . rename_i hc
           simp only [bA_, dE_] at hc
           obtain ⟨rfl, hlen⟩ := hc
           rw [oM_] at h
           obtain ⟨ys, hys, rfl⟩ := h
           have hcl : ((xs.drop off).take len).length = len := by simp; omega
           rcases hH.obj l _ hl with ⟨rfl, h0⟩ | ⟨h0, c, g1, g2, g3, g4, g5⟩
           . have hl0 : len = 0 := by simp at hlen; omega
             subst hl0
             have := i3 _ _ [] hys (by simpa using RFs.nil)
             have hy0 : ys = [] := eN_ (by simpa using this.2.2.1)
             subst hy0
             refine ⟨?_, rfl⟩
             cases hx with
             | sl _ _ _ _ cap o hu hcap ho hs => exact .list sz' [] _ cap [] (by simp) (by simp) (by simp) .nil
             | sl0 => exact .list sz' [] _ 0 [] (by simp) (by simp) (by simp) .nil
           . have hpart := (g5.drop (off * sz')).take (len * sz')
             rw [<- b0a off xs g3, <- a9l len _ (fun x hx => g3 x (List.mem_of_mem_drop hx))] at hpart
             obtain ⟨k1, k2, k3, k4⟩ := i3 _ _ _ hys hpart
             have k4 := k4 sz' (fun x hx => g3 x (List.mem_of_mem_drop (List.mem_of_mem_take hx)))
             rw [hcl] at k3
             refine ⟨?_, by simpa [nl] using k2⟩
             have hlive : Live H m l := ⟨_, hl, by simp, h0⟩
             cases hx with
             | sl _ _ _ _ cap o hu hcap ho hs =>
               have := RF.list (w := w) (F := frzF F H m) (U := fun _ => False) (m := m') sz' ys (some ⟨(m l).1, o, none⟩) cap _ k4 (by omega) (fun hne => ?_) k1
               . rw [k3] at this; exact this
               . have hpos : 0 < len := by
                  rcases Nat.eq_zero_or_pos len with e | e
                  . exact absurd (eN_ (by omega)) hne
                  . exact e
                 have ho' : o = off * sz' := ho.resolve_left (by omega)
                 refine ⟨_, rfl, .inr ⟨l, hlive, rfl⟩, fun j u hj => ?_⟩
                 rw [List.getElem?_take] at hj
                 split at hj
                 . rename_i hjl
                   rw [List.getElem?_drop, List.getElem?_take] at hj
                   split at hj
                   . rw [add0, a6z g1, ho']; simpa using hj
                   . cases hj
                 . cases hj
             | sl0 _ _ _ _ hu h00 => exact absurd h00 h0
         . cases h
       . cases h
     | agg cs =>
       simp only [frz] at h
       split at h
       . rename_i hc
         exact d3i (.agg cs) hc (by simpa using h) hx
       . rw [oM_] at h
         obtain ⟨ys, hys, rfl⟩ := h
         cases hx with
         | agg _ vs hvs =>
         obtain ⟨k1, k2⟩ := i2 _ _ _ hys hvs
         exact ⟨.agg ys vs k1, k2⟩
     | tup cs =>
       simp only [frz] at h
       split at h
       . rename_i hc
         exact d3i (.tup cs) hc (by simpa using h) hx
       . rw [oM_] at h
         obtain ⟨ys, hys, rfl⟩ := h
         cases hx with
         | tup _ vs hvs =>
         obtain ⟨k1, k2⟩ := i2 _ _ _ hys hvs
         exact ⟨.tup ys vs k1, k2⟩
     | _ =>
       simp only [frz] at h
       split at h
       . rename_i hc
         exact d3i _ hc (by simpa using h) hx
       . cases h
   . cases xs with
     | nil =>
       simp only [frzs, sE_] at h
       subst h
       cases hx
       exact ⟨.nil, rfl⟩
     | cons x xs' =>
       simp only [frzs] at h
       rw [Option.bind_eq_some_iff] at h
       obtain ⟨y, hy, h⟩ := h
       rw [oM_] at h
       obtain ⟨ys', hys, rfl⟩ := h
       cases hx with
       | cons _ v _ vs hv hvs =>
       obtain ⟨k1, k2⟩ := i1 _ _ _ hy hv
       obtain ⟨k3, k4⟩ := i2 _ _ _ hys hvs
       exact ⟨.cons _ _ _ _ k1 k3, by simp [nls, k2, k4]⟩
   . simp only [frzR] at h
     split at h
     . rename_i hc
       obtain rfl := by simpa using h
       exact ⟨hx.up (by rw [<- a5q]; exact hc), hc, rfl, fun sz hl => hl⟩
     . rename_i hc
       cases xs with
       | nil => exact absurd rfl hc
       | cons x xs2 =>
         simp only at h
         rw [Option.bind_eq_some_iff] at h
         obtain ⟨y, hy, h⟩ := h
         rw [oM_] at h
         obtain ⟨ys', hys, rfl⟩ := h
         rw [List.flatten_cons] at hx
         obtain ⟨v1, v2, rfl, g1, g2⟩ := RFs.part x xs2.flatten hx
         obtain ⟨k1, k2⟩ := i2 _ _ _ hy g1
         obtain ⟨k3, k4, k5, k6⟩ := i3 _ _ _ hys g2
         refine ⟨by rw [List.flatten_cons]; exact k1.append k3, by simp [nlss, k2, k4], by simp [k5], fun sz hl z hz => ?_⟩
         rcases List.mem_cons.1 hz with rfl | hz
         . rw [k1.length, <- g1.length]; exact hl x (by simp)
         . exact k6 sz (fun q hq => hl q (by simp [hq])) z hz
end
mutual
def asR : FV -> FV -> Prop
 | .nils, r => r = .nils \/ ∃ sz, r = .list sz []
 | .agg cs, r => ∃ ds, r = .agg ds /\ asRs cs ds
 | .tup cs, r => ∃ ds, r = .tup ds /\ asRs cs ds
 | v, r => r = v
def asRs : List FV -> List FV -> Prop
 | [], l => l = []
 | x :: xs, l => ∃ y ys, l = y :: ys /\ asR x y /\ asRs xs ys
end
section
variable {w w' : World} {F F' : Nat -> Prop} {U U' : Loc -> Prop} {m m' : Loc -> Nat × Nat} {P : Program}
mutual
theorem RF.asR {x y : FV} {v : Value} (h : RF w F U m x v) (hr : asR x y) : RF w F U m y v := by
 cases h with
 | nils =>
   rcases hr with rfl | ⟨sz, rfl⟩
   . exact .nils
   . exact .list sz [] none 0 [] (by simp) (by simp) (by simp) .nil
 | agg cs vs h =>
   obtain ⟨ds, rfl, hds⟩ := hr
   exact .agg ds vs (RFs.asR h hds)
 | tup cs vs h =>
   obtain ⟨ds, rfl, hds⟩ := hr
   exact .tup ds vs (RFs.asR h hds)
 | undef v => have e : y = .undef := hr; subst e; exact .undef v
 | int k n => have e : y = .int k n := hr; subst e; exact .int k n
 | bool b => have e : y = .bool b := hr; subst e; exact .bool b
 | str s => have e : y = .str s := hr; subst e; exact .str s
 | list sz xs A cap vs hl hc hm h => have e : y = .list sz xs := hr; subst e; exact .list sz xs A cap vs hl hc hm h
 | ref cs a vs hF hm h => have e : y = .ref cs := hr; subst e; exact .ref cs a vs hF hm h
 | ptr l sz i off hu => have e : y = .ptr l sz i off := hr; subst e; exact .ptr l sz i off hu
 | nilp => have e : y = .nilp := hr; subst e; exact .nilp
 | sl l sz off len cap o hu hc ho hs => have e : y = .sl l sz off len := hr; subst e; exact .sl l sz off len cap o hu hc ho hs
 | sl0 l sz off A hu h0 => have e : y = .sl l sz off 0 := hr; subst e; exact .sl0 l sz off A hu h0
 | mp l hu => have e : y = .mp l := hr; subst e; exact .mp l hu
 | nilm => have e : y = .nilm := hr; subst e; exact .nilm
 | clo f a b us vs h1 h2 => have e : y = .clo f a b := hr; subst e; exact .clo f a b us vs h1 h2
 | nilf => have e : y = .nilf := hr; subst e; exact .nilf
 | emp A => have e : y = .emp := hr; subst e; exact .emp A
theorem RFs.asR {xs ys : List FV} {vs : List Value} (h : RFs w F U m xs vs) (hr : asRs xs ys) : RFs w F U m ys vs := by
 cases h with
 | nil => have e : ys = [] := hr; subst e; exact .nil
 | cons a v as vs h hs =>
   obtain ⟨y, ys', rfl, h1, h2⟩ := hr
   exact .cons y v ys' vs (RF.asR h h1) (RFs.asR hs h2)
end
def PC (P : Program) (G : List (Nat × List Value)) (f : FuncId) (args : List FV) (r : FV) : Prop := FC P G f args noH r noH
def PEnd (P : Program) (res : List ResultVar) (r : FV) (e : Exit) (s : Fs) : Prop :=
 (e = .normal \/ e = .ret) /\ ∃ s1, Wk s1 s /\ ∃ l, resL P s1 res = some l /\ ∃ n y, frz s1.H n (a3n l) = some y /\ asR y r
theorem a9y (w : World) (F : Nat -> Prop) (m : Loc -> Nat × Nat) : HeapR w F m noH :=
 ⟨fun _ _ h => (by cases h), fun _ _ ⟨_, h, _⟩ => (by cases h), fun _ ⟨_, h, _⟩ => (by cases h)⟩
theorem f9v {f : FuncId} {fn : Func} {code : Code} {c : Cfg} {nv : Nat} {args : List FV} {r : FV} (hf : P.funcs[f]? = some fn) (hb : fn.body = some code) (hN : c.N = fn.ntmps)
 (hargs : args.length <= nv) (hnv : nv <= fn.ntmps) (h : a2s P c code (PEnd P fn.results.toList r) (Fs.init nv args noH)) : PC P c.G f args r := by
 intro w F m vs hF hG hv hH
 refine (d5s hf hb hN hargs hnv h (fun _ h => absurd rfl h) w F m vs hF hG hv hH).mono ?_
 rintro e w' ⟨v, s1, l, F', m', a, rfl, ⟨n, y, hy, hr⟩, k1, k2, hR, hv2⟩
 have hnol : ∀ b, ¬ Ctx.lent ⟨w, F, noH, m⟩ b := fun b ⟨l, ⟨_, h, _⟩, _⟩ => by cases h
 obtain ⟨g1, _⟩ := (c7y (m' := m') hR.heap n).1 _ _ _ hy hv2
 refine ⟨v, frzF F' s1.H m', m', rfl, fun y hy => .inl (k1 y hy), fun y hy => ?_, fun l hl => absurd rfl hl, ?_, a9y _ _ _, fun l ⟨_, h, _⟩ => (by cases h), hR.size, fun y hy _ => hR.keep y hy (hnol y), hR.os, hR.tape, hR.output⟩
 . rcases hy with hy | ⟨l, hl, rfl⟩
   . exact ⟨k2 y hy, hR.frz y hy⟩
   . exact ⟨.inr ((hR.own l hl).resolve_left (hnol _)), (hR.heap.old l hl).1⟩
 . exact (g1.asR hr).keep (fun _ h => h) (fun _ _ => rfl) (fun _ h => h.elim) (fun _ h => h.elim)
theorem PC.lift {G : List (Nat × List Value)} {f : FuncId} {args : List FV} {r : FV} (h : PC P G f args r) (ha : nls args = true) (H : Heap) : FC P G f args H r H := by
 intro w F m vs hF hG hv hH
 refine (h w F m vs hF hG (hv.nameless ha _ _) (a9y _ _ _)).mono ?_
 rintro e w' ⟨v, F', m', he, k1, k2, _, k4, _, _, k7, k8, k9, k10, k11⟩
 have hold : ∀ y, y < w.heap.size -> w'.heap[y]? = w.heap[y]? := fun y hy => k8 y hy fun l ⟨_, h, _⟩ => by cases h
 have hR : HeapR w' F' m H := by
  have hF' : ∀ b, F b -> w'.heap[b]? = w.heap[b]? := fun b hb => hold b (hF b hb)
  refine ⟨fun l o ho => ?_, hH.inj, fun l hl => ⟨by have := (hH.old l hl).1; omega, fun hFl => ?_⟩⟩
  . exact (hH.obj l o ho).keep k1 hF' (fun _ h => h) (fun _ _ => rfl) rfl (fun hd h0 => hold _ (hH.old l ⟨o, ho, hd, h0⟩).1)
  . have := hH.old l hl
    rcases (k2 _ hFl).1 with h1 | h1
    . exact this.2 h1
    . omega
 exact ⟨v, F', m, he, k1, k2, fun l hl => ⟨rfl, hl⟩, k4.keep (fun _ h => h) (fun _ _ => rfl) (fun l hl => absurd rfl hl) (fun l hl => absurd rfl hl), hR, fun l hl => .inl ⟨l, hl, rfl⟩, k7, fun y hy _ => hold y hy, k9, k10, k11⟩
def sca : FV -> Bool
 | .int .. | .bool _ | .str _ => true
 | .tup cs => cs.all fun | .int .. | .bool _ | .str _ => true | _ => false
 | .agg cs => cs.all fun | .int .. | .bool _ | .str _ => true | _ => false
 | _ => false
theorem RFs.scas {cs : List FV} {vs : List Value} (h : RFs w F U m cs vs) (hs : (cs.all fun | .int .. | .bool _ | .str _ => true | _ => false) = true) (w' : World) (F' : Nat -> Prop) (U' : Loc -> Prop) (m' : Loc -> Nat × Nat) : RFs w' F' U' m' cs vs := by
 match h with
 | .nil => exact .nil
 | .cons a v as vs h hs' =>
   simp only [List.all_cons, bA_] at hs
   have h1 : RF w' F' U' m' a v := by cases h <;> first | (simp at hs; done) | exact RF.int _ _ | exact RF.bool _ | exact RF.str _
   exact RFs.cons a v as vs h1 (RFs.scas hs' hs.2 w' F' U' m')
theorem RF.scas {r : FV} {v : Value} (h : RF w F U m r v) (hs : sca r = true) (w' : World) (F' : Nat -> Prop) (U' : Loc -> Prop) (m' : Loc -> Nat × Nat) : RF w' F' U' m' r v := by
 cases h <;> first | (simp [sca] at hs; done) | exact RF.int _ _ | exact RF.bool _ | exact RF.str _ | exact RF.agg _ _ (RFs.scas ‹_› hs _ _ _ _) | exact RF.tup _ _ (RFs.scas ‹_› hs _ _ _ _)
theorem PC.lend {G : List (Nat × List Value)} {f : FuncId} {args args1 args2 : List FV} {r : FV} {H : Heap} {n : Nat} (hz : frzs H n args = some args1) (ha : asRs args1 args2) (h : PC P G f args2 r) (hs : sca r = true) : FC P G f args H r H := by
 intro w F m vs hF hG hv hH
 obtain ⟨g1, _⟩ := (c7y (m' := m) hH n).2.1 _ _ _ hz hv
 have g2 := (g1.asR ha).keep (w' := w) (F' := frzF F H m) (U' := fun l => noH l ≠ none) (m' := m) (fun _ h => h) (fun _ _ => rfl) (fun _ h => h.elim) (fun _ h => h.elim)
 refine (h w (frzF F H m) m vs (fun y hy => ?_) (hG.mono fun _ _ h => .inl h) g2 (a9y _ _ _)).mono ?_
 . rcases hy with hy | ⟨l, hl, rfl⟩
   . exact hF y hy
   . exact (hH.old l hl).1
 . rintro e w' ⟨v, F', m', he, k1, k2, _, k4, _, _, k7, k8, k9, k10, k11⟩
   have hold : ∀ y, y < w.heap.size -> w'.heap[y]? = w.heap[y]? := fun y hy => k8 y hy fun l ⟨_, h, _⟩ => by cases h
   have hF' : ∀ b, F b -> w'.heap[b]? = w.heap[b]? := fun b hb => hold b (hF b hb)
   have hR : HeapR w' F m H := by
    refine ⟨fun l o ho => ?_, hH.inj, fun l hl => ⟨by have := (hH.old l hl).1; omega, (hH.old l hl).2⟩⟩
    exact (hH.obj l o ho).keep (fun _ h => h) hF' (fun _ h => h) (fun _ _ => rfl) rfl (fun hd h0 => hold _ (hH.old l ⟨o, ho, hd, h0⟩).1)
   exact ⟨v, F, m, he, fun _ h => h, fun y hy => ⟨.inl hy, by have := hF y hy; omega⟩, fun l hl => ⟨rfl, hl⟩, k4.scas hs _ _ _ _, hR, fun l hl => .inl ⟨l, hl, rfl⟩, k7, fun y hy _ => hold y hy, k9, k10, k11⟩
end
end Go.FM
namespace Go.FM
open Go Go.RowKit
section
variable {P : Program} {G : List (Nat × List Value)} {f : FuncId} {A : List FV} {w w' : World} {F : Nat -> Prop} {m : Loc -> Nat × Nat} {H : Heap}
theorem HeapR.below (hH : HeapR w F m H) (hF : ∀ b, F b -> b < w.heap.size) (hb : Below w.heap.size w w') : HeapR w' F m H :=
 ⟨fun l o ho => (hH.obj l o ho).keep (fun _ h => h) (fun b hb' => hb.block b (hF b hb')) (fun _ h => h) (fun _ _ => rfl) rfl (fun hd h0 => hb.block _ (hH.old l ⟨o, ho, hd, h0⟩).1), hH.inj,
  fun l hl => ⟨Nat.lt_of_lt_of_le (hH.old l hl).1 hb.size, (hH.old l hl).2⟩⟩
theorem b5f {r : FV} (h : ∀ (w : World) (F : Nat -> Prop) (m : Loc -> Nat × Nat) (vs : List Value), (∀ b, F b -> b < w.heap.size) -> a6s G F w -> RFs w F (fun l => H l ≠ none) m A vs -> HeapR w F m H ->
 Calls P f vs.toArray w fun e w' => ∃ v, e = .returned v /\ Below w.heap.size w w' /\ RF w' F (fun l => H l ≠ none) m r v) : FC P G f A H r H := by
 intro w F m vs hF hG hv hH
 refine (h w F m vs hF hG hv hH).mono ?_
 rintro e w' ⟨v, rfl, hb, hr⟩
 exact ⟨v, F, m, rfl, fun _ h => h, fun y hy => ⟨.inl hy, Nat.lt_of_lt_of_le (hF y hy) hb.size⟩, fun l hl => ⟨rfl, hl⟩, hr, hH.below hF hb, fun l hl => .inl ⟨l, hl, rfl⟩, hb.size, fun y hy _ => hb.block y hy, hb.os, hb.tape, hb.output⟩
end
end Go.FM
