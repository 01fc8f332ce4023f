/- One of the texts of a proof by an abstract machine over the model. -/
import Derived.Test.YtmhkendlllmodaaGreatDoorFmG5
set_option linter.unusedSimpArgs false
set_option linter.unusedVariables false
namespace Go.FM
open Go

/-- new names come -/
def ext (H A : Heap) : Heap := fun l => match A l with
  | some o => some o
  | none => H l
def noH : Heap := fun _ => none
theorem ext_noH (H : Heap) : ext H noH = H := rfl

section
variable {P : Program} {X : Ctx} {c : Cfg} {w w' : World} {F F' : Nat → Prop} {m m' : Loc → Nat × Nat} {s s' : FS} {a a' : Act} {o : Oper}

/-- a part of the heap -/
def HSub (H1 H : Heap) : Prop := ∀ l o, H1 l = some o → H l = some o
theorem HSub.refl (H : Heap) : HSub H H := fun _ _ h => h
theorem HSub.ne {H1 H : Heap} (h : HSub H1 H) {l : Loc} (hl : H1 l ≠ none) : H l ≠ none := by
  obtain ⟨o, ho⟩ := Option.ne_none_iff_exists'.1 hl
  rw [h l o ho]; simp
theorem HeapR.sub {H1 H : Heap} (hs : HSub H1 H) (hU : ∀ l, H l ≠ none → H1 l ≠ none ∨ True) (h : HeapR w F m H) (hv : ∀ l o, H1 l = some o → OR w F H1 m l o) : HeapR w F m H1 :=
  ⟨hv, fun l l' hl hl' e => h.inj l l' (by obtain ⟨o, g1, g2⟩ := hl; exact ⟨o, hs l o g1, g2⟩) (by obtain ⟨o, g1, g2⟩ := hl'; exact ⟨o, hs l' o g1, g2⟩) e,
   fun l hl => h.old l (by obtain ⟨o, g1, g2⟩ := hl; exact ⟨o, hs l o g1, g2⟩)⟩

/-- loads and lengths see a larger heap as they saw the smaller one -/
theorem fLoad_mono {H1 H : Heap} (hs : HSub H1 H) {t : TypeId} {x y : FV} (h : fLoad P H1 t x = some y) : fLoad P H t x = some y := by
  unfold fLoad at h ⊢
  split at h
  case h_3 => exact h
  · cases h
  · split at h
    · rename_i l sz i off
      split at h
      · rename_i T sz' xs hl
        simp only [hs _ _ hl]
        exact h
      · cases h
    · exact h
    · cases h
  · split at h
    · rename_i l sz i off
      split at h
      · rename_i T sz' xs hl
        simp only [hs _ _ hl]
        exact h
      · cases h
    · exact h
    · cases h
theorem fLen_mono {H1 H : Heap} (hs : HSub H1 H) {t : TypeId} {x y : FV} (h : fLen P H1 t x = some y) : fLen P H t x = some y := by
  unfold fLen at h ⊢
  split at h
  case h_6 =>
    split at h
    · rename_i hu hl
      simp only [hu, hs _ _ hl]
      exact h
    · cases h
  all_goals exact h
theorem pv1_mono {H1 H : Heap} (hs : HSub H1 H) {ρ : Operand → FV} {y : FV} (h : pv1 P H1 ρ o = some y) : pv1 P H ρ o = some y := by
  unfold pv1 at h ⊢
  split at h
  case h_10 => exact fLoad_mono hs h
  case h_14 => exact fLen_mono hs h
  all_goals exact h
theorem pv1_congr {H : Heap} {ρ ρ' : Operand → FV} (h : ∀ x ∈ o.op.operands.toList, ρ' x = ρ x) : pv1 P H ρ' o = pv1 P H ρ o := by
  unfold pv1
  split
  case h_8 =>
    rename_i t parts ho
    rw [ho] at h
    have e : (parts.toList.map (·.2)).map ρ' = (parts.toList.map (·.2)).map ρ := List.map_congr_left fun x hx => h x (by simpa [Op.operands] using hx)
    rw [e]
  case h_12 =>
    rename_i t x lo hi ho
    rw [ho] at h
    simp only [Op.operands] at h
    rw [h x (by simp)]
    have e1 : lo.map ρ' = lo.map ρ := by cases lo with
      | none => rfl
      | some y => simp only [Option.map_some]; rw [h y (by simp)]
    have e2 : hi.map ρ' = hi.map ρ := by cases hi with
      | none => rfl
      | some y => simp only [Option.map_some]; rw [h y (by simp)]
    rw [e1, e2]
  case h_13 =>
    rename_i f first caps ho
    rw [ho] at h
    simp only [Op.operands] at h
    have e1 : first.toList.map ρ' = first.toList.map ρ := List.map_congr_left fun x hx => h x (by simp at hx ⊢; simp [hx])
    have e2 : caps.toList.map ρ' = caps.toList.map ρ := List.map_congr_left fun x hx => h x (by simp at hx ⊢; simp [hx])
    rw [e1, e2]
  all_goals first
    | rfl
    | (rename_i ho
       rw [ho] at h
       simp only [Op.operands, Call.operands] at h
       simp only [List.mem_cons, List.not_mem_nil, or_false, forall_eq_or_imp, forall_eq, List.nil_append, Array.toList_append, List.mem_append, false_or] at h
       first
        | rw [h]
        | rw [h.1, h.2]
        | rw [h.1, h.2.1, h.2.2]
        | (simp only [h])
        | (simp only [h.1, h.2]))

theorem fLook_mono {H1 H : Heap} (hs : HSub H1 H) {t : TypeId} {x i y : FV} {ok : Bool} (h : fLook P H1 t x i ok = some y) : fLook P H t x i ok = some y := by
  unfold fLook at h ⊢
  split at h
  · cases h
  split at h
  case isFalse => cases h
  rename_i hk
  simp only [hk, if_true]
  split at h
  · split at h
    · rename_i hl
      simp only [hs _ _ hl]
      exact h
    · cases h
  · exact h
  · cases h
theorem fEntry_mono {H1 H : Heap} (hs : HSub H1 H) {it y : FV} (h : fEntry H1 it = some y) : fEntry H it = some y := by
  unfold fEntry at h ⊢
  split at h
  case h_2 => cases h
  split at h
  case h_2 => cases h
  rename_i hl
  split at h
  case h_2 => cases h
  rename_i hk
  simp only [hs _ _ hl, hs _ _ hk]
  exact h
theorem pv2_mono {H1 H : Heap} (hs : HSub H1 H) {ρ : Operand → FV} {y : FV} (h : pv2 P H1 ρ o = some y) : pv2 P H ρ o = some y := by
  unfold pv2 at h ⊢
  split at h
  case h_1 => exact fLook_mono hs h
  case h_9 => exact fEntry_mono hs h
  all_goals exact h
theorem pv2_congr {H : Heap} {ρ ρ' : Operand → FV} (h : ∀ x ∈ o.op.operands.toList, ρ' x = ρ x) : pv2 P H ρ' o = pv2 P H ρ o := by
  unfold pv2
  split
  case h_7 =>
    rename_i x xs ts ho
    rw [ho] at h
    simp only [Op.operands, Call.operands] at h
    rw [h x (by simp), List.map_congr_left fun y hy => h y (by simp [hy])]
  case h_8 =>
    rename_i x xs ts ho
    rw [ho] at h
    simp only [Op.operands, Call.operands] at h
    rw [h x (by simp), List.map_congr_left fun y hy => h y (by simp [hy])]
  case h_10 =>
    rename_i t parts ho
    rw [ho] at h
    have e : (parts.toList.map (·.2)).map ρ' = (parts.toList.map (·.2)).map ρ := List.map_congr_left fun x hx => h x (by simpa [Op.operands] using hx)
    unfold fBuildA
    rw [e]
  case h_11 =>
    rename_i t x lo hi mx ho
    rw [ho] at h
    simp only [Op.operands] at h
    rw [h x (by simp), h mx (by simp)]
    have e1 : lo.map ρ' = lo.map ρ := by cases lo with
      | none => rfl
      | some y => simp only [Option.map_some]; rw [h y (by simp)]
    have e2 : hi.map ρ' = hi.map ρ := by cases hi with
      | none => rfl
      | some y => simp only [Option.map_some]; rw [h y (by simp)]
    rw [e1, e2]
  all_goals first
    | rfl
    | (rename_i ho
       rw [ho] at h
       simp only [Op.operands, Call.operands] at h
       simp only [List.mem_cons, List.not_mem_nil, or_false, forall_eq_or_imp, forall_eq, List.nil_append, Array.toList_append, List.mem_append, false_or] at h
       first
        | rw [h]
        | rw [h.1, h.2]
        | (simp only [h])
        | (simp only [h.1, h.2]))
theorem pv1_same {H1 H : Heap} {ρ : Operand → FV} {y : FV} (h : pv2 P H1 ρ o = some y) : pv1 P H ρ o = pv1 P H1 ρ o := by
  unfold pv2 at h
  split at h
  case h_12 => cases h
  case h_10 =>
    rename_i ho
    simp only [pv1, ho]
  all_goals
    rename_i ho
    simp only [pv1, ho]
theorem pv_mono {H1 H : Heap} (hs : HSub H1 H) {ρ : Operand → FV} {y : FV} (h : pv P H1 ρ o = some y) : pv P H ρ o = some y := by
  unfold pv at h ⊢
  cases h1 : pv1 P H1 ρ o with
  | some z => rw [h1] at h; rw [pv1_mono hs h1]; exact h
  | none =>
    rw [h1] at h
    rw [pv1_same h, h1]
    exact pv2_mono hs h
theorem pv_congr {H : Heap} {ρ ρ' : Operand → FV} (h : ∀ x ∈ o.op.operands.toList, ρ' x = ρ x) : pv P H ρ' o = pv P H ρ o := by
  unfold pv
  rw [pv1_congr h, pv2_congr h]


theorem srcA_mono {H1 H : Heap} (hs : HSub H1 H) {sz : Nat} {x : FV} {r : List (List FV)} (h : srcA H1 sz x = some r) : srcA H sz x = some r := by
  unfold srcA at h ⊢
  split at h
  · exact h
  · exact h
  · exact h
  · split at h
    · rename_i hl
      simp only [hs _ _ hl]
      exact h
    · cases h
  · cases h
/-- what an operation writes is the same over a larger heap, as long as the names that it takes are new -/
theorem wv_mono {H1 H : Heap} (hs : HSub H1 H) {nm : Loc} {ρ : Operand → FV} {us : List (Loc × FO)} {v : FV} (h : wv P H1 nm ρ o = some (us, v)) (hf : ∀ u ∈ us, H u.1 = none) : wv P H nm ρ o = some (us, v) := by
  have bad : ∀ {l : Loc} {ob ob' : FO} {y : FV} {z : FV}, H1 l = some ob → some ([(l, ob')], y) = some (us, z) → False := fun {l ob ob' y z} hl he => by
    simp only [Option.some.injEq, Prod.mk.injEq] at he
    obtain ⟨rfl, _⟩ := he
    have := hf (l, ob') (by simp)
    rw [hs _ _ hl] at this
    cases this
  have new : ∀ {l : Loc} {ob' : FO} {y : FV} {z : FV}, some ([(l, ob')], y) = some (us, z) → H l = none := fun {l ob' y z} he => by
    simp only [Option.some.injEq, Prod.mk.injEq] at he
    obtain ⟨rfl, _⟩ := he
    exact hf (l, ob') (by simp)
  unfold wv at h ⊢
  split at h
  · unfold wAlloc at h ⊢
    split at h
    case h_2 => cases h
    split at h
    case isFalse => cases h
    have hn : H nm = none := by
      split at h
      · exact new h
      · exact new h
    simp only [hn, Option.isNone_none, if_true]
    exact h
  · unfold wBox at h ⊢
    split at h
    case isFalse => cases h
    rename_i hc
    simp only [Bool.and_eq_true] at hc
    simp only [hc.1.1, hc.1.2, new h, Option.isNone_none, Bool.and_self, if_true]
    exact h
  · unfold wStore at h ⊢
    split at h
    case h_1 => exact h
    case h_3 => cases h
    exfalso
    split at h
    case h_2 => cases h
    rename_i hl
    split at h
    case h_2 => cases h
    split at h
    case isFalse => cases h
    exact bad hl h
  · unfold wBuildS at h ⊢
    split at h
    case h_2 => cases h
    split at h
    case h_2 => cases h
    split at h
    case isFalse => cases h
    rename_i hc
    rw [Bool.and_eq_true] at hc
    have hnm : H nm = none := by
      rw [Option.bind_eq_some_iff] at h
      obtain ⟨r, _, h⟩ := h
      split at h
      · exact new h
      · cases h
    simp only [hc.1, hnm, Option.isNone_none, Bool.and_self, if_true]
    exact h
  · unfold wMakeS at h ⊢
    split at h
    case h_2 => cases h
    split at h
    case h_2 => cases h
    split at h
    case isFalse => cases h
    rename_i hc
    rw [Bool.and_eq_true] at hc
    simp only [hc.1, new h, Option.isNone_none, Bool.and_self, if_true]
    exact h
  · unfold wMakeM at h ⊢
    split at h
    · split at h
      · simp only [new h, Option.isNone_none, if_true]; exact h
      · cases h
    · cases h
  · exfalso
    unfold wMapU at h
    split at h
    case h_2 => cases h
    split at h
    case h_2 => cases h
    rename_i hl
    split at h
    case isFalse => cases h
    split at h
    · exact bad hl h
    · exact bad hl h
    · cases h
  · exfalso
    unfold wMapU at h
    split at h
    case h_2 => cases h
    split at h
    case h_2 => cases h
    rename_i hl
    split at h
    case isFalse => cases h
    split at h
    · exact bad hl h
    · exact bad hl h
    · cases h
  · unfold wRange at h ⊢
    split at h
    · cases h
    split at h
    case isFalse => cases h
    split at h
    · split at h
      · rename_i hl
        simp only [hs _ _ hl, new h, Option.isNone_none, if_true]; exact h
      · cases h
    · simp only [new h, Option.isNone_none, if_true]; exact h
    · cases h
  · unfold wNext at h ⊢
    split at h
    case h_2 => cases h
    split at h
    · rename_i hl
      simp only [hs _ _ hl]; exact h
    · rename_i hl
      split at h
      case h_2 => cases h
      rename_i hk
      simp only [hs _ _ hl, hs _ _ hk]
      exact h
    · cases h
  · unfold wApp at h ⊢
    split at h
    case h_2 => cases h
    split at h
    case h_2 => cases h
    split at h
    case isFalse => cases h
    rename_i hc0
    split at h
    case h_2 => cases h
    rename_i hsrc
    split at h
    case isFalse => cases h
    rename_i hcell
    simp only [srcA_mono hs hsrc, hcell, hc0, if_true]
    split at h
    · split at h
      · rename_i hr; simp only [hr, if_true]; exact h
      · rename_i hr
        split at h
        case isFalse => cases h
        rename_i hc
        rw [Bool.and_eq_true, Bool.and_eq_true] at hc
        simp only [hr, hc.1, hc.2.1, new h, Option.isNone_none, Bool.and_self, if_true]
        exact h
    · split at h
      · rename_i hr; simp only [hr, if_true]; exact h
      · rename_i hr
        split at h
        case isFalse => cases h
        rename_i hc
        rw [Bool.and_eq_true, Bool.and_eq_true] at hc
        simp only [hr, hc.1, hc.2.1, new h, Option.isNone_none, Bool.and_self, if_true]
        exact h
    · exfalso
      split at h
      · rename_i l _ _ _ _ _ _ hl
        split at h
        case isFalse => cases h
        simp only [Option.some.injEq, Prod.mk.injEq] at h
        obtain ⟨rfl, _⟩ := h
        have := hf (_, FO.dead) (List.mem_cons_self ..)
        rw [hs _ _ hl] at this
        cases this
      · cases h
    · cases h
  · unfold wClear at h ⊢
    split at h
    · exact h
    · exact h
    · exact h
    · exfalso
      split at h
      · rename_i hl _
        exact bad hl h
      · cases h
    · exact h
    · exfalso
      split at h
      · rename_i hl _
        split at h
        case h_2 => cases h
        split at h
        case isFalse => cases h
        exact bad hl h
      · cases h
    · cases h
  · rw [Option.map_eq_some_iff] at h ⊢
    obtain ⟨y, hy, e⟩ := h
    exact ⟨y, pv_mono hs hy, e⟩
theorem wBuildS_congr {H : Heap} {ρ ρ' : Operand → FV} {nm : Loc} {t : TypeId} {len : Nat} {parts : Array (Nat × Operand)} (h : ∀ x ∈ parts.toList.map (·.2), ρ' x = ρ x) : wBuildS P H ρ' nm t len parts = wBuildS P H ρ nm t len parts := by
  unfold wBuildS
  rw [List.map_congr_left h]
theorem wv_congr {H : Heap} {ρ ρ' : Operand → FV} {nm : Loc} (h : ∀ x ∈ o.op.operands.toList, ρ' x = ρ x) : wv P H nm ρ' o = wv P H nm ρ o := by
  unfold wv
  split
  case h_4 =>
    rename_i ho
    rw [ho] at h
    exact wBuildS_congr fun x hx => h x (by simpa [Op.operands] using hx)
  case h_6 =>
    rename_i r ho
    rw [ho] at h
    cases r with
    | none => rfl
    | some y => simp only [Option.map_some]; rw [h y (by simp [Op.operands])]
  case h_13 => rw [pv_congr h]
  all_goals first
    | rfl
    | (rename_i ho
       rw [ho] at h
       simp only [Op.operands, Call.operands] at h
       simp only [List.mem_cons, List.not_mem_nil, or_false, forall_eq_or_imp, forall_eq, List.nil_append, Array.toList_append, List.mem_append, false_or] at h
       first
        | rw [h]
        | rw [h.1, h.2]
        | rw [h.1, h.2.1, h.2.2]
        | (simp only [h])
        | (simp only [h.1, h.2])
        | (simp only [h.1, h.2.1, h.2.2]))
end
end Go.FM
