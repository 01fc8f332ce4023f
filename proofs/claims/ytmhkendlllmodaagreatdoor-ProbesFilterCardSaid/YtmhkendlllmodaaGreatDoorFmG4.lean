/- One of the texts of a proof by an abstract machine over the model. -/
import Derived.Test.YtmhkendlllmodaaGreatDoorFmG3
set_option linter.unusedSimpArgs false
set_option linter.unusedVariables false
namespace Go.FM
open Go

section
variable {P : Program} {X : Ctx} {c : Cfg} {w w' : World} {F F' : Nat → Prop} {U : Loc → Prop} {m m' : Loc → Nat × Nat} {s s' : FS} {a a' : Act} {o : Oper} {H : Heap}

/-! ### append -/
/-- what the second argument of an append yields -/
def srcA (H : Heap) (sz : Nat) : FV → Option (List (List FV))
  | .list sz' xs => if sz' = sz then some xs else none
  | .nils => some []
  | .emp => some []
  | .sl l sz' off len => match H l with
    | some (.cells _ sz'' xs) => if decide (sz' = sz) && (decide (sz'' = sz) && decide (off + len ≤ xs.length)) then some ((xs.drop off).take len) else none
    | _ => none
  | _ => none
theorem drop_flatten' {α : Type} {sz : Nat} : ∀ (n : Nat) (xs : List (List α)), (∀ x ∈ xs, x.length = sz) → (xs.drop n).flatten = xs.flatten.drop (n * sz)
  | 0, xs, _ => by simp
  | n + 1, [], _ => by simp
  | n + 1, y :: ys, hl => by
    have hy := hl y (by simp)
    rw [List.drop_succ_cons, drop_flatten' n ys (fun x hx => hl x (by simp [hx])), List.flatten_cons, Nat.add_mul, Nat.one_mul, Nat.add_comm, ← List.drop_drop]
    rw [show (y ++ ys.flatten).drop sz = ys.flatten by rw [← hy]; simp]
theorem take_flatten' {α : Type} {sz : Nat} : ∀ (n : Nat) (xs : List (List α)), (∀ x ∈ xs, x.length = sz) → (xs.take n).flatten = xs.flatten.take (n * sz)
  | 0, xs, _ => by simp
  | n + 1, [], _ => by simp
  | n + 1, y :: ys, hl => by
    have hy := hl y (by simp)
    rw [List.take_succ_cons, List.flatten_cons, take_flatten' n ys (fun x hx => hl x (by simp [hx])), List.flatten_cons, Nat.add_mul, Nat.one_mul, Nat.add_comm, ← hy, List.take_length_add_append]
theorem srcA_ok (h : HeapR w F m H) {tx e' : TypeId} (hk : P.underlying tx = some (.slice e')) {sz : Nat} {x : FV} {v : Value} {rows : List (List FV)} (hs : srcA H sz x = some rows) (hc : rows.flatten.all FV.cellV = true) (hx : RF w F (fun l => H l ≠ none) m x v) :
    (∀ r ∈ rows, r.length = sz) ∧ ∃ news, Src P sz tx v rows.length news w ∧ RFs w F (fun l => H l ≠ none) m rows.flatten news := by
  unfold srcA at hs
  split at hs
  · rename_i sz1 xs
    split at hs
    case isFalse => cases hs
    rename_i he
    obtain rfl : xs = rows := Option.some.inj hs
    cases hx with
    | list _ _ A cap vs hl hcap hm hvs =>
    rw [he] at hl
    have hlen : vs.length = xs.length * sz := by rw [← hvs.length]; exact flat_length _ xs hl
    refine ⟨hl, vs, ?_, hvs⟩
    cases hr : xs with
    | nil =>
      subst hr
      have : vs = [] := List.eq_nil_of_length_eq_zero (by simpa using hlen)
      subst this
      cases A with
      | none => exact Src.ofNil w hk cap
      | some a => exact Src.ofSlice w hk a 0 cap [] (by simp) (by simp) (by simp)
    | cons r rs =>
      obtain ⟨a, rfl, hF, hcell⟩ := hm (by rw [hr]; simp)
      rw [← hr]
      exact Src.ofSlice w hk a xs.length cap vs hlen hcell (hvs.one hc)
  · obtain rfl := Option.some.inj hs
    cases hx
    exact ⟨by simp, [], Src.ofNil w hk 0, .nil⟩
  · obtain rfl := Option.some.inj hs
    cases hx with
    | emp A =>
    refine ⟨by simp, [], ?_, .nil⟩
    cases A with
    | none => exact Src.ofNil w hk 0
    | some a => exact Src.ofSlice w hk a 0 0 [] (by simp) (by simp) (by simp)
  · rename_i l sz' off len
    split at hs
    case h_2 => cases hs
    rename_i T sz'' xs hl
    split at hs
    case isFalse => cases hs
    rename_i hcond
    simp only [Bool.and_eq_true, decide_eq_true_eq] at hcond
    obtain ⟨e1, e2, hle⟩ := hcond
    rw [e1] at hx
    rw [e2] at hl
    clear e1 e2
    obtain rfl := Option.some.inj hs
    have hrl : ((xs.drop off).take len).length = len := by simp; omega
    rcases h.obj _ _ hl with ⟨rfl, h00⟩ | ⟨h0, cur, g1, g2, g3, g4, g5⟩
    · have hl0 : len = 0 := by simp at hle; omega
      subst hl0
      refine ⟨by simp, [], ?_, by simpa using RFs.nil⟩
      rw [hrl]
      cases hx with
      | sl _ _ _ _ cap o hu hcap ho hs => exact Src.ofSlice w hk _ 0 cap [] (by simp) (by simp) (by simp)
      | sl0 => exact Src.ofNil w hk 0
    · have hall : ∀ r ∈ (xs.drop off).take len, r.length = sz := fun x hx => g3 x (List.mem_of_mem_drop (List.mem_of_mem_take hx))
      have hpart := (g5.drop (off * sz)).take (len * sz)
      rw [← drop_flatten' off xs g3, ← take_flatten' len _ (fun x hx => g3 x (List.mem_of_mem_drop hx))] at hpart
      refine ⟨hall, _, ?_, hpart⟩
      rw [hrl]
      have hvl : (((cur.toList.take (xs.length * sz)).drop (off * sz)).take (len * sz)).length = len * sz := by
        rw [← hpart.length, flat_length sz _ hall, hrl]
      cases hx with
      | sl _ _ _ _ cap o hu hcap ho hs =>
        refine Src.ofSlice w hk _ len cap _ hvl (fun j u hj => ?_) (hpart.one hc)
        have hpos : 0 < len := by
          rcases Nat.eq_zero_or_pos len with e | e
          · subst e; simp at hj
          · exact e
        have ho' : o = off * sz := ho.resolve_left (by omega)
        rw [List.getElem?_take] at hj
        split at hj
        · rw [List.getElem?_drop, List.getElem?_take] at hj
          split at hj
          · rw [add0, cell_blk g1, ho']; simpa using hj
          · cases hj
        · cases hj
      | sl0 _ _ _ hu h00 => exact absurd h00 h0
  · cases hs

/-- rows are put behind the first 'len' ones -/
theorem RelX.extend (h : RelX X F m s a w) {l : Loc} {T : TypeId} {sz len : Nat} {xs rows : List (List FV)} {vs : List Value} (hl : s.H l = some (.cells T sz xs)) (h0 : (m l).2 ≠ 0) (hle : len ≤ xs.length) (hfit : (len + rows.length) * sz ≤ (m l).2)
    (hrow : ∀ r ∈ rows, r.length = sz) (hv : RFs w F (fun k => s.H k ≠ none) m rows.flatten vs) (h1 : ∀ v ∈ vs, v.oneCell' = true) :
    ∃ w', (storeCells ⟨(m l).1, len * sz, none⟩ vs).run P w = .ok () w' ∧ RelX X F m { s with H := upd s.H l (.cells T sz (xs.take len ++ rows)) } a w' := by
  have hvl : vs.length = rows.length * sz := by rw [← hv.length]; exact flat_length sz rows hrow
  rcases h.heap.obj l _ hl with ⟨_, h00⟩ | ⟨_, cur, g1, g2, g3, g4, g5⟩
  · exact absurd h00 h0
  have hmul : len * sz ≤ xs.length * sz := Nat.mul_le_mul_right _ hle
  rw [Nat.add_mul] at hfit
  have hst := run_storeCells_at P (m l).1 (len * sz) T vs 0 cur w g1 (by omega) h1
  simp only [Nat.add_zero] at hst
  refine ⟨_, hst, ?_⟩
  have hlive : Live s.H m l := ⟨_, hl, by simp, h0⟩
  have hU : ∀ k, s.H k ≠ none → upd s.H l (.cells T sz (xs.take len ++ rows)) k ≠ none := fun k hk => by unfold upd; split <;> simp [hk]
  have hFne : ∀ b, F b → (w.setRow (m l).1 (cur.toList.take (len * sz) ++ vs ++ cur.toList.drop (len * sz + vs.length)).toArray).heap[b]? = w.heap[b]? := fun b hb =>
    setRow_other w _ b _ (fun e => (h.heap.old l hlive).2 (e ▸ hb))
  refine h.write hl hlive (by simp) (by simp [World.setRow]) (fun b _ hb => setRow_other w _ b _ hb) rfl rfl rfl (.inr ⟨h0, _, setRow_heap w _ cur _ T _ g1, ?_, ?_, ?_, ?_⟩)
  · simp; omega
  · intro x hx
    rcases List.mem_append.1 hx with hx | hx
    · exact g3 x (List.mem_of_mem_take hx)
    · exact hrow x hx
  · simp only [List.length_append, List.length_take, Nat.min_eq_left hle, Nat.add_mul, List.size_toArray, List.length_drop, Array.length_toList]
    omega
  · rw [List.flatten_append, take_flatten' len xs g3]
    have e3 : ((cur.toList.take (len * sz) ++ vs ++ cur.toList.drop (len * sz + vs.length)).toArray.toList.take ((xs.take len ++ rows).length * sz)) = (cur.toList.take (xs.length * sz)).take (len * sz) ++ vs := by
      rw [List.toList_toArray, List.take_take, Nat.min_eq_left hmul]
      have e4 : (xs.take len ++ rows).length * sz = (cur.toList.take (len * sz) ++ vs).length := by
        simp only [List.length_append, List.length_take, Nat.min_eq_left hle, Nat.add_mul, Array.length_toList]
        omega
      rw [e4, List.take_left']
      rfl
    rw [e3]
    exact ((g5.keep (F' := F) (fun _ h => h) hFne hU (fun _ _ => rfl) (m' := m)).take _).append (hv.keep (fun _ h => h) hFne hU (fun _ _ => rfl))

def wApp (P : Program) (H : Heap) (nm : Loc) (t tx : TypeId) (x y : FV) : Option (List (Loc × FO) × FV) := match slT P t, slT P tx with
  | some (e, sz), some _ => match byT P e, zeroC P e with
    | some by_, some z => if decide (z.length = sz) && decide (0 < sz) then (match srcA H sz y with
      | some rows => if rows.flatten.all FV.cellV then (match x with
        | .nils => if rows.isEmpty then some ([], .nils) else if decide ((rows.length + rows.length / 4 + 192) * by_ ≤ 140737488355328) && (decide (rows.length ≤ 4611686018427387904) && (H nm).isNone) then some ([(nm, .cells e sz rows)], .sl nm sz 0 rows.length) else none
        | .emp => if rows.isEmpty then some ([], .emp) else if decide ((rows.length + rows.length / 4 + 192) * by_ ≤ 140737488355328) && (decide (rows.length ≤ 4611686018427387904) && (H nm).isNone) then some ([(nm, .cells e sz rows)], .sl nm sz 0 rows.length) else none
        | .sl l sz' 0 len => match H l with
          | some (.cells T sz'' xs) => if (decide (sz' = sz) && decide (sz'' = sz)) && (decide (T = e) && (decide (len ≤ xs.length) && (decide ((len + rows.length + (len + rows.length) / 4 + 192) * by_ ≤ 140737488355328) && (decide (len + rows.length ≤ 4611686018427387904) && (H nm).isNone)))) then
              some ([(l, .dead), (nm, .cells e sz (xs.take len ++ rows))], .sl nm sz 0 (len + rows.length)) else none
          | _ => none
        | _ => none) else none
      | none => none) else none
    | _, _ => none
  | _, _ => none
theorem RelX.drew (h : RelX X F m s a w) : RelX X F m s a w.drew := h.world (Nat.le_refl _) (fun _ _ => rfl) rfl rfl rfl
theorem RF.drewn {x : FV} {v : Value} (h : RF w F U m x v) : RF w.drew F U m x v := h.keep (fun _ h => h) (fun _ _ => rfl) (fun _ h => h) (fun _ _ => rfl)
theorem RFs.drewn {x : List FV} {v : List Value} (h : RFs w F U m x v) : RFs w.drew F U m x v := h.keep (fun _ h => h) (fun _ _ => rfl) (fun _ h => h) (fun _ _ => rfl)
/-- append that takes a new row -/
theorem app_grow (h : RelX X F m s a w) {t tx ty e : TypeId} {i : TypeInfo} {z : List FV} {nm : Loc} {sz len cap : Nat} {base : Option Addr} {olds news : List Value} {orows rows : List (List FV)} {y : Value} (hu : P.underlying t = some (.slice e)) (hi : P.info? e = some i) (hsz : i.size = sz)
    (hzc : zeroC P e = some z) (hzsz : z.length = sz) (h0 : 0 < sz) (hnm : s.H nm = none) (hold : (Builtin.firstCells i.size len (.slice base len cap)).run P w.drew = .ok olds.toArray w.drew) (hsrc : Src P i.size tx y rows.length news w) (hg : cap < len + rows.length) (hol : orows.length = len)
    (h62 : len + rows.length ≤ 4611686018427387904) (hb : (len + rows.length + (len + rows.length) / 4 + 192) * i.bytes ≤ 140737488355328) (hr : RFs w F (fun k => s.H k ≠ none) m (orows ++ rows).flatten (olds ++ news)) (hrow : ∀ r ∈ orows ++ rows, r.length = sz) :
    ∃ m' cap' w', (Builtin.append_ #[t, tx] ty #[.slice base len cap, y]).run P w = .ok (.slice (some ⟨w.heap.size, 0, none⟩) (len + rows.length) cap') w' ∧ RelX X F m' { s with H := upd s.H nm (.cells e sz (orows ++ rows)) } a w' ∧
      RF w' F (fun k => upd s.H nm (.cells e sz (orows ++ rows)) k ≠ none) m' (.sl nm sz 0 (len + rows.length)) (.slice (some ⟨w.heap.size, 0, none⟩) (len + rows.length) cap') := by
  obtain ⟨zi, hzz⟩ : ∃ zi, i.zero = some zi := by
    unfold zeroC at hzc
    rw [hi] at hzc
    simp only at hzc
    split at hzc
    · rename_i zi hzi; exact ⟨zi, hzi⟩
    · cases hzc
  have hzl : z.length = zi.cells.size := by
    unfold zeroC at hzc
    rw [hi] at hzc
    simp only [hzz, Option.some.injEq] at hzc
    rw [← hzc]; simp
  have hb2 : (len + rows.length) * i.bytes ≤ (len + rows.length + (len + rows.length) / 4 + 192) * i.bytes := Nat.mul_le_mul_right _ (by omega)
  have hrun := run_append_grow_src (P := P) w t tx ty e i zi hu hi hzz base len cap olds hold y rows.length news hsrc hg (by omega) (growslice_fits hg (by omega))
  have hge := grownCap_ge w (len + rows.length) cap e
  have hfl : (olds ++ news).length = (len + rows.length) * sz := by rw [← hr.length, flat_length sz _ hrow]; simp [hol]
  have hpos : 0 < len + rows.length := by omega
  have hcs : ((olds ++ news).toArray ++ Builtin.zeroCells zi.cells (grownCap w (len + rows.length) cap e - (len + rows.length))).size = (len + rows.length) * sz + (grownCap w (len + rows.length) cap e - (len + rows.length)) * zi.cells.size := by
    rw [Array.size_append, size_zeroCells, List.size_toArray, hfl]
  have hmulpos : 0 < (len + rows.length) * sz := Nat.mul_pos hpos h0
  have hal := h.drew.alloc (l := nm) (cells := (olds ++ news).toArray ++ Builtin.zeroCells zi.cells (grownCap w (len + rows.length) cap e - (len + rows.length))) (T := e) (rows := orows ++ rows) (sz := sz) hnm (by
    rw [Array.toList_append, List.toList_toArray, List.length_append, hol, ← hfl, List.take_left']
    · exact hr.drewn
    · rfl) hrow (by rw [hcs, List.length_append, hol]; omega) (by omega)
  refine ⟨_, _, _, hrun, hal, ?_⟩
  have := RF.sl (w := w.drew.alloc (.cells ((olds ++ news).toArray ++ Builtin.zeroCells zi.cells (grownCap w (len + rows.length) cap e - (len + rows.length))) e (0, 0))) (F := F) (U := fun k => upd s.H nm (.cells e sz (orows ++ rows)) k ≠ none)
    (m := fun k => if k = nm then (w.drew.heap.size, ((olds ++ news).toArray ++ Builtin.zeroCells zi.cells (grownCap w (len + rows.length) cap e - (len + rows.length))).size) else m k) nm sz 0 (len + rows.length) (grownCap w (len + rows.length) cap e) 0 (by simp [upd]) hge (.inr (by simp)) (by
      simp only [if_true, hcs, Nat.zero_add, ← hzl, hzsz, ← Nat.add_mul]
      exact Nat.mul_le_mul_right _ (by omega))
  simpa using this

theorem first_none (size c : Nat) (A : Option Addr) (w' : World) : (Builtin.firstCells size 0 (.slice A 0 c)).run P w' = .ok #[] w' := by
  cases A with
  | none => simp [Builtin.firstCells]
  | some a => exact run_firstCells_some w' size 0 a 0 c [] (by simp) (by simp)
theorem upd_upd_ne {H : Heap} {l l' : Loc} {o o' : FO} (h : l ≠ l') : upd (upd H l o) l' o' = upd (upd H l' o') l o := by
  funext k
  unfold upd
  by_cases e1 : k = l' <;> by_cases e2 : k = l
  · exact absurd (e2.symm.trans e1) h
  · simp [e1, e2]
    intro e; exact absurd e.symm h
  · simp [e1, e2]
    intro e; exact absurd e h
  · simp [e1, e2]
theorem upd_self {H : Heap} {l : Loc} {o : FO} (h : H l = some o) : upd H l o = H := by
  funext k
  unfold upd
  split
  · rename_i e; rw [e, h]
  · rfl
theorem RelX.cut (h : RelX X F m s a w) {l : Loc} {T : TypeId} {sz len : Nat} {xs : List (List FV)} (hl : s.H l = some (.cells T sz xs)) (hle : len ≤ xs.length) : RelX X F m { s with H := upd s.H l (.cells T sz (xs.take len)) } a w := by
  by_cases h0 : (m l).2 = 0
  · rcases h.heap.obj l _ hl with ⟨rfl, _⟩ | ⟨h1, _⟩
    · rw [List.take_nil, upd_self hl]; exact h
    · exact absurd h0 h1
  · have hfit : (len + ([] : List (List FV)).length) * sz ≤ (m l).2 := by
      rcases h.heap.obj l _ hl with ⟨_, h00⟩ | ⟨_, cur, _, g2, _, g4, _⟩
      · exact absurd h00 h0
      · rw [← g2]
        exact Nat.le_trans (Nat.mul_le_mul_right _ (by simpa using hle)) g4
    obtain ⟨w', g1, g2⟩ := h.extend (P := default) (rows := []) (vs := []) hl h0 hle hfit (by simp) .nil (by simp)
    have : w' = w := by
      simp only [storeCells, Sem.run_pure, Result.ok.injEq, true_and] at g1
      exact g1.symm
    subst this
    simpa using g2
theorem wApp_ok {nm : Loc} {t tx : TypeId} {x y : Operand} {us : List (Loc × FO)} {v : FV} (hs : wApp P s.H nm t tx (rv s x) (rv s y) = some (us, v)) (ho : o.op = .call { callee := .builtin .append, args := ⟨[x, y]⟩, argTypes := ⟨[t, tx]⟩ }) : WOk P s o us v := by
  intro X F m a w h
  unfold wApp at hs
  split at hs
  case h_2 => cases hs
  rename_i e sz ex ht htx
  obtain ⟨e2, sz2⟩ := ex
  obtain ⟨hu, hz⟩ := slT_some ht
  obtain ⟨hux, _⟩ := slT_some htx
  split at hs
  case h_2 => cases hs
  rename_i by_ z hby hzc
  obtain ⟨i, hi, rfl⟩ := byT_some hby
  have hisz := szT_info hz hi
  split at hs
  case isFalse => cases hs
  rename_i hc
  simp only [Bool.and_eq_true, decide_eq_true_eq] at hc
  obtain ⟨hzsz, h0⟩ := hc
  split at hs
  case h_2 => cases hs
  rename_i rows hrows
  split at hs
  case isFalse => cases hs
  rename_i hcell
  obtain ⟨hrl, news, hsrc, hnews⟩ := srcA_ok h.heap hux hrows hcell (rv_ok h y)
  have hxv := rv_ok h x
  have hexec : ∀ u w', (Builtin.append_ #[t, tx] o.type #[a.eval x, a.eval y]).run P w = .ok u w' → Ran P o a w u w' := fun u w' hr => .inl (by simp [execOp, ho, resolve, invoke, builtin, hr])
  have hsrc' : Src P i.size tx (a.eval y) rows.length news w := by rw [hisz]; exact hsrc
  have nothing : ∀ {A : Option Addr} {len cap : Nat}, len ≤ cap → rows.length = 0 → (Builtin.append_ #[t, tx] o.type #[.slice A len cap, a.eval y]).run P w = .ok (.slice A len cap) w := fun {A len cap} hle hr0 => by
    have hn0 : news = [] := by
      have hr : rows = [] := List.eq_nil_of_length_eq_zero hr0
      rw [hr] at hnews
      cases hnews; rfl
    rw [hr0, hn0] at hsrc'
    exact run_append_nothing w t tx o.type e i hu hi A len cap hle _ hsrc'
  have fresh : s.H nm = none → ∀ {A : Option Addr}, a.eval x = .slice A 0 0 → rows.length ≠ 0 → (rows.length + rows.length / 4 + 192) * i.bytes ≤ 140737488355328 → rows.length ≤ 4611686018427387904 →
      ∃ (m' : Loc → Nat × Nat) (u : Value) (w' : World), Ran P o a w u w' ∧ RelX X F m' { s with H := upds s.H [(nm, .cells e sz rows)] } a w' ∧ RF w' F (fun l => upds s.H [(nm, .cells e sz rows)] l ≠ none) m' (.sl nm sz 0 rows.length) u := by
    intro hnm A hA hne hb h62
    obtain ⟨m', cap', w', g1, g2, g3⟩ := app_grow (base := A) (len := 0) (cap := 0) (olds := []) (orows := []) (ty := o.type) h hu hi hisz hzc hzsz h0 hnm (first_none _ _ _ _) hsrc' (by omega) rfl (by simpa using h62) (by simpa using hb) (by simpa using hnews) (by simpa using hrl)
    simp only [List.nil_append, Nat.zero_add] at g1 g2 g3
    exact ⟨m', _, w', hexec _ _ (by rw [hA]; exact g1), g2, g3⟩
  split at hs
  · rename_i hx
    rw [hx] at hxv
    generalize hxe : a.eval x = vx at hxv
    cases hxv
    split at hs
    · rename_i hr
      simp only [Option.some.injEq, Prod.mk.injEq] at hs
      obtain ⟨rfl, rfl⟩ := hs
      exact ⟨m, _, w, hexec _ _ (by rw [hxe]; exact nothing (Nat.le_refl _) (by simpa using hr)), h, .nils⟩
    · rename_i hr
      split at hs
      case isFalse => cases hs
      rename_i hb
      simp only [Bool.and_eq_true, decide_eq_true_eq, Option.isNone_iff_eq_none] at hb
      simp only [Option.some.injEq, Prod.mk.injEq] at hs
      obtain ⟨rfl, rfl⟩ := hs
      exact fresh hb.2.2 hxe (by simpa using hr) hb.1 hb.2.1
  · rename_i hx
    rw [hx] at hxv
    generalize hxe : a.eval x = vx at hxv
    cases hxv
    split at hs
    · rename_i hr
      simp only [Option.some.injEq, Prod.mk.injEq] at hs
      obtain ⟨rfl, rfl⟩ := hs
      exact ⟨m, _, w, hexec _ _ (by rw [hxe]; exact nothing (Nat.le_refl _) (by simpa using hr)), h, .emp _⟩
    · rename_i hr
      split at hs
      case isFalse => cases hs
      rename_i hb
      simp only [Bool.and_eq_true, decide_eq_true_eq, Option.isNone_iff_eq_none] at hb
      simp only [Option.some.injEq, Prod.mk.injEq] at hs
      obtain ⟨rfl, rfl⟩ := hs
      exact fresh hb.2.2 hxe (by simpa using hr) hb.1 hb.2.1
  · rename_i l sz' len hx
    split at hs
    case h_2 => cases hs
    rename_i T sz'' xs hl
    split at hs
    case isFalse => cases hs
    rename_i hc
    simp only [Bool.and_eq_true, decide_eq_true_eq, Option.isNone_iff_eq_none] at hc
    obtain ⟨⟨e1, e2⟩, e3, hle, hb, h62, hnm⟩ := hc
    simp only [Option.some.injEq, Prod.mk.injEq] at hs
    obtain ⟨rfl, rfl⟩ := hs
    rw [hx, e1] at hxv
    rw [e2, e3] at hl
    clear e1 e2 e3
    have hll : l ≠ nm := fun e => by rw [e, hnm] at hl; cases hl
    have hH : ∀ q q', upds s.H [(l, .dead), (nm, .cells e sz q)] = upd (upd (upd s.H l q') l .dead) nm (.cells e sz q) := fun q q' => by
      simp only [upds, List.foldl_cons, List.foldl_nil]
      congr 1
      funext k
      unfold upd
      split <;> rfl
    have still : ∀ {A : Option Addr} {cap : Nat}, rows = [] → a.eval x = .slice A len cap → len ≤ cap → Ran P o a w (.slice A len cap) w ∧ RelX X F (fun k => if k = nm then m l else m k) { s with H := upds s.H [(l, .dead), (nm, .cells e sz (xs.take len ++ []))] } a w := by
      intro A cap hr hA hle'
      refine ⟨hexec _ _ (by rw [hA]; exact nothing hle' (by rw [hr]; rfl)), ?_⟩
      rw [hH _ (.cells e sz (xs.take len)), List.append_nil]
      exact (h.cut hl hle).rename (l := l) (l' := nm) (T := e) (sz := sz) (xs := xs.take len) (by simp [upd]) (by simp [upd, hnm]; intro e; exact absurd e.symm hll)
    have growO : ∀ {A : Option Addr} {cap : Nat} {olds : List Value}, a.eval x = .slice A len cap → cap < len + rows.length → (Builtin.firstCells i.size len (.slice A len cap)).run P w.drew = .ok olds.toArray w.drew → RFs w F (fun k => s.H k ≠ none) m (xs.take len).flatten olds →
        (∀ r ∈ xs.take len, r.length = sz) →
        ∃ (m' : Loc → Nat × Nat) (u : Value) (w' : World), Ran P o a w u w' ∧ RelX X F m' { s with H := upds s.H [(l, .dead), (nm, .cells e sz (xs.take len ++ rows))] } a w' ∧ RF w' F (fun k => upds s.H [(l, .dead), (nm, .cells e sz (xs.take len ++ rows))] k ≠ none) m' (.sl nm sz 0 (len + rows.length)) u := by
      intro A cap olds hA hg hold hor horl
      obtain ⟨m', cap', w', g1, g2, g3⟩ := app_grow (base := A) (orows := xs.take len) (ty := o.type) h hu hi hisz hzc hzsz h0 hnm hold hsrc' hg (by simp; omega) h62 (by omega) (by rw [List.flatten_append]; exact hor.append hnews) (fun r hr => by
        rcases List.mem_append.1 hr with hr | hr
        · exact horl r hr
        · exact hrl r hr)
      have hcomm : upds s.H [(l, .dead), (nm, .cells e sz (xs.take len ++ rows))] = upd (upd s.H nm (.cells e sz (xs.take len ++ rows))) l .dead := upd_upd_ne hll
      refine ⟨m', _, w', hexec _ _ (by rw [hA]; exact g1), g2.weaken ⟨rfl, fun t => .inr rfl, fun k => ?_⟩, g3.keep (fun _ h => h) (fun _ _ => rfl) (fun k hk => ?_) (fun _ _ => rfl)⟩
      · show upds s.H _ k = _ ∨ upds s.H _ k = _
        rw [hcomm]
        by_cases e : k = l
        · right; simp [upd, e]
        · left; simp [upd, e]
      · rw [hcomm]
        unfold upd at hk ⊢
        split
        · simp
        · exact hk
    generalize hxe : a.eval x = vx at hxv
    cases hxv with
    | sl _ _ _ _ cap o' hul hcap hoff hfit =>
      by_cases hr0 : rows.length = 0
      · have hrn : rows = [] := List.eq_nil_of_length_eq_zero hr0
        subst hrn
        obtain ⟨g1, g2⟩ := still rfl hxe hcap
        refine ⟨_, _, w, g1, g2, ?_⟩
        have := RF.sl (w := w) (F := F) (U := fun k => upds s.H [(l, .dead), (nm, .cells e sz (xs.take len ++ []))] k ≠ none) (m := fun k => if k = nm then m l else m k) nm sz 0 len cap o' (by simp [upds, upd]) hcap hoff (by simpa using hfit)
        simpa using this
      by_cases hroom : len + rows.length ≤ cap
      · have hcap0 : ¬ cap = 0 := by omega
        have hoff' : o' = 0 := by have := hoff.resolve_left hcap0; simpa using this
        subst hoff'
        have hm0 : (m l).2 ≠ 0 := by
          intro hz
          rw [hz] at hfit
          have : 0 < (0 + cap) * sz := Nat.mul_pos (by omega) h0
          omega
        obtain ⟨w', g1, g2⟩ := h.extend (P := P) (len := len) hl hm0 hle (by
          refine Nat.le_trans (Nat.mul_le_mul_right _ hroom) ?_
          simpa using hfit) hrl hnews hsrc.one
        have hrun : (Builtin.append_ #[t, tx] o.type #[.slice (some ⟨(m l).1, 0, none⟩) len cap, a.eval y]).run P w = .ok (.slice (some ⟨(m l).1, 0, none⟩) (len + rows.length) cap) w' := by
          have g1' := g1
          rw [← hisz] at g1'
          rcases hsrc'.kind with ⟨e', hk⟩ | hk <;> simp [Builtin.append_, run_underlying hu, run_underlying hk, sizeOf, typeInfo, hi, hsrc'.len, hroom, hsrc'.cells, Addr.add_lit, g1']
        have hR := g2.rename (l := l) (l' := nm) (T := e) (sz := sz) (xs := xs.take len ++ rows) (by simp [upd]) (by simp [upd, hnm]; intro e; exact absurd e.symm hll)
        refine ⟨fun k => if k = nm then m l else m k, _, w', hexec _ _ (by rw [hxe]; exact hrun), ?_, ?_⟩
        · rw [hH _ (.cells e sz (xs.take len ++ rows))]
          exact hR
        · have := RF.sl (w := w') (F := F) (U := fun k => upds s.H [(l, .dead), (nm, .cells e sz (xs.take len ++ rows))] k ≠ none) (m := fun k => if k = nm then m l else m k) nm sz 0 (len + rows.length) cap 0 (by simp [upds, upd]) hroom (.inr (by simp)) (by simpa using hfit)
          simpa using this
      · by_cases hl0 : len = 0
        · subst hl0
          exact growO (olds := []) hxe (Nat.lt_of_not_le hroom) (first_none _ _ _ _) (by simpa using RFs.nil) (by simp)
        · have hoff' : o' = 0 := by have := hoff.resolve_left (by omega); simpa using this
          have hm0 : (m l).2 ≠ 0 := by
            intro hz
            rw [hz] at hfit
            have : 0 < (0 + cap) * sz := Nat.mul_pos (by omega) h0
            omega
          rcases h.heap.obj l _ hl with ⟨_, h00⟩ | ⟨_, cur, q1, q2, q3, q4, q5⟩
          · exact absurd h00 hm0
          have hmul : len * sz ≤ xs.length * sz := Nat.mul_le_mul_right _ hle
          refine growO (olds := cur.toList.take (len * sz)) hxe (Nat.lt_of_not_le hroom) (run_firstCells_some w.drew i.size len _ len cap _ (by rw [hisz]; simp; omega) fun j u hj => ?_) ?_ (fun r hr => q3 r (List.mem_of_mem_take hr))
          · rw [List.getElem?_take] at hj
            split at hj
            · rw [add0, hoff', Nat.zero_add]
              show w.cell? _ = _
              rw [cell_blk q1]
              simpa using hj
            · cases hj
          · have := q5.take (len * sz)
            rw [List.take_take, Nat.min_eq_left hmul, ← take_flatten' len xs q3] at this
            exact this
    | sl0 _ _ _ hul hm0 =>
      by_cases hr0 : rows.length = 0
      · have hrn : rows = [] := List.eq_nil_of_length_eq_zero hr0
        subst hrn
        obtain ⟨g1, g2⟩ := still rfl hxe (Nat.le_refl _)
        refine ⟨_, _, w, g1, g2, ?_⟩
        have := RF.sl0 (w := w) (F := F) (U := fun k => upds s.H [(l, .dead), (nm, .cells e sz (xs.take 0 ++ []))] k ≠ none) (m := fun k => if k = nm then m l else m k) nm sz 0 (by simp [upds, upd]) (by simpa using hm0)
        simpa using this
      · exact growO (olds := []) hxe (by omega) (first_none _ _ _ _) (by simpa using RFs.nil) (by simp)
  · cases hs
end
end Go.FM
