/- One of the texts of a proof by an abstract machine over the model. -/
import Derived.Test.YtmhkendlllmodaaGreatDoorFmG4
set_option linter.unusedSimpArgs false
set_option linter.unusedVariables false
namespace Go.FM
open Go

section
variable {P : Program} {X : Ctx} {c : Cfg} {w w' : World} {F F' : Nat → Prop} {U : Loc → Prop} {m m' : Loc → Nat × Nat} {s s' : FS} {a a' : Act} {o : Oper} {H : Heap}

/-- rows in the middle are replaced -/
theorem RelX.splice (h : RelX X F m s a w) {l : Loc} {T : TypeId} {sz off : Nat} {xs rows : List (List FV)} {vs : List Value} (hl : s.H l = some (.cells T sz xs)) (h0 : (m l).2 ≠ 0) (hle : off + rows.length ≤ xs.length)
    (hrow : ∀ r ∈ rows, r.length = sz) (hv : RFs w F (fun k => s.H k ≠ none) m rows.flatten vs) (h1 : ∀ v ∈ vs, v.oneCell' = true) :
    ∃ w', (storeCells ⟨(m l).1, off * sz, none⟩ vs).run P w = .ok () w' ∧ RelX X F m { s with H := upd s.H l (.cells T sz (xs.take off ++ (rows ++ xs.drop (off + rows.length)))) } a w' := by
  have hvl : vs.length = rows.length * sz := by rw [← hv.length]; exact flat_length sz rows hrow
  rcases h.heap.obj l _ hl with ⟨_, h00⟩ | ⟨_, cur, g1, g2, g3, g4, g5⟩
  · exact absurd h00 h0
  have hmul : (off + rows.length) * sz ≤ xs.length * sz := Nat.mul_le_mul_right _ hle
  have hadd : (off + rows.length) * sz = off * sz + vs.length := by rw [Nat.add_mul, hvl]
  have hst := run_storeCells_at P (m l).1 (off * sz) T vs 0 cur w g1 (by omega) h1
  simp only [Nat.add_zero] at hst
  refine ⟨_, hst, ?_⟩
  have hlive : Live s.H m l := ⟨_, hl, by simp, h0⟩
  have hU : ∀ k, s.H k ≠ none → upd s.H l (.cells T sz (xs.take off ++ (rows ++ xs.drop (off + rows.length)))) k ≠ none := fun k hk => by unfold upd; split <;> simp [hk]
  have hFne : ∀ b, F b → (w.setRow (m l).1 (cur.toList.take (off * sz) ++ vs ++ cur.toList.drop (off * sz + vs.length)).toArray).heap[b]? = w.heap[b]? := fun b hb =>
    setRow_other w _ b _ (fun e => (h.heap.old l hlive).2 (e ▸ hb))
  have hnl : (xs.take off ++ (rows ++ xs.drop (off + rows.length))).length = xs.length := by simp; omega
  refine h.write hl hlive (by simp) (by simp [World.setRow]) (fun b _ hb => setRow_other w _ b _ hb) rfl rfl rfl (.inr ⟨h0, _, setRow_heap w _ cur _ T _ g1, ?_, ?_, ?_, ?_⟩)
  · simp; omega
  · intro x hx
    rcases List.mem_append.1 hx with hx | hx
    · exact g3 x (List.mem_of_mem_take hx)
    · rcases List.mem_append.1 hx with hx | hx
      · exact hrow x hx
      · exact g3 x (List.mem_of_mem_drop hx)
  · rw [hnl]
    simp only [List.size_toArray, List.length_append, List.length_take, List.length_drop, Array.length_toList]
    omega
  · rw [List.flatten_append, List.flatten_append, take_flatten' off xs g3, drop_flatten' _ xs g3]
    have e3 : ((cur.toList.take (off * sz) ++ vs ++ cur.toList.drop (off * sz + vs.length)).toArray.toList.take ((xs.take off ++ (rows ++ xs.drop (off + rows.length))).length * sz)) =
        (cur.toList.take (xs.length * sz)).take (off * sz) ++ (vs ++ (cur.toList.take (xs.length * sz)).drop ((off + rows.length) * sz)) := by
      rw [hnl, List.toList_toArray, List.take_take, Nat.min_eq_left (by omega), List.append_assoc, List.take_append, List.take_of_length_le (by simp; omega)]
      congr 1
      rw [List.take_append, List.take_of_length_le (by simp; omega)]
      congr 1
      rw [hadd, List.drop_take, List.length_take, Nat.min_eq_left (by simp; omega)]
      congr 1
      omega
    rw [e3]
    have hk := g5.keep (F' := F) (fun _ h => h) hFne hU (fun _ _ => rfl) (m' := m)
    exact (hk.take _).append ((hv.keep (fun _ h => h) hFne hU (fun _ _ => rfl)).append (hk.drop _))

def wClear (P : Program) (H : Heap) (t : TypeId) (x : FV) : Option (List (Loc × FO) × FV) := match x with
  | .nilm => if hasT P t then some ([], .tup []) else none
  | .nils => if hasT P t then some ([], .tup []) else none
  | .emp => if hasT P t then some ([], .tup []) else none
  | .mp l => match H l, P.underlying t with
    | some (.map _ clk), some (.map _ _) => some ([(l, .map [] clk)], .tup [])
    | _, _ => none
  | .sl _ _ _ 0 => if hasT P t then some ([], .tup []) else none
  | .sl l sz off len => match H l, slT P t with
    | some (.cells T sz'' xs), some (e, sz') => match zeroC P e with
      | some z => if (decide (sz' = sz) && decide (sz'' = sz)) && (decide (z.length = sz) && (decide (0 < sz) && (decide (off + len ≤ xs.length) && z.all FV.cellV))) then some ([(l, .cells T sz (xs.take off ++ (List.replicate len z ++ xs.drop (off + len))))], .tup []) else none
      | none => none
    | _, _ => none
  | _ => none
theorem wClear_ok {t : TypeId} {x : Operand} {us : List (Loc × FO)} {v : FV} (hs : wClear P s.H t (rv s x) = some (us, v)) (ho : o.op = .call { callee := .builtin .clear, args := ⟨[x]⟩, argTypes := ⟨[t]⟩ }) : WOk P s o us v := by
  intro X F m a w h
  have hexec : ∀ w', (Builtin.clear_ #[t] o.type #[a.eval x]).run P w = .ok (.tuple #[]) w' → Ran P o a w (.tuple #[]) w' := fun w' hr => .inl (by simp [execOp, ho, resolve, invoke, builtin, hr])
  have hxv := rv_ok h x
  have unit : ∀ w', RF w' F (fun l => upds s.H us l ≠ none) m (.tup []) (.tuple #[]) := fun w' => .tup [] [] .nil
  have none' : us = [] → v = .tup [] → (Builtin.clear_ #[t] o.type #[a.eval x]).run P w = .ok (.tuple #[]) w → ∃ (m' : Loc → Nat × Nat) (u : Value) (w' : World), Ran P o a w u w' ∧ RelX X F m' { s with H := upds s.H us } a w' ∧ RF w' F (fun l => upds s.H us l ≠ none) m' v u := by
    rintro rfl rfl hr
    exact ⟨m, _, w, hexec _ hr, h, unit w⟩
  unfold wClear at hs
  split at hs
  · rename_i hx
    split at hs
    case isFalse => cases hs
    rename_i ht
    obtain ⟨d, hd⟩ := Option.isSome_iff_exists.1 ht
    simp only [Option.some.injEq, Prod.mk.injEq] at hs
    rw [hx] at hxv
    generalize hxe : a.eval x = vx at hxv
    cases hxv
    refine none' hs.1.symm hs.2.symm ?_
    rw [hxe]; simp [Builtin.clear_, run_underlying hd]
  · rename_i hx
    split at hs
    case isFalse => cases hs
    rename_i ht
    obtain ⟨d, hd⟩ := Option.isSome_iff_exists.1 ht
    simp only [Option.some.injEq, Prod.mk.injEq] at hs
    rw [hx] at hxv
    generalize hxe : a.eval x = vx at hxv
    cases hxv
    refine none' hs.1.symm hs.2.symm ?_
    rw [hxe]; simp [Builtin.clear_, run_underlying hd]
  · rename_i hx
    split at hs
    case isFalse => cases hs
    rename_i ht
    obtain ⟨d, hd⟩ := Option.isSome_iff_exists.1 ht
    simp only [Option.some.injEq, Prod.mk.injEq] at hs
    rw [hx] at hxv
    generalize hxe : a.eval x = vx at hxv
    cases hxv with
    | emp A =>
    refine none' hs.1.symm hs.2.symm ?_
    rw [hxe]; cases A <;> simp [Builtin.clear_, run_underlying hd]
  · rename_i l hx
    split at hs
    case h_2 => cases hs
    rename_i es clk k e hl hu
    simp only [Option.some.injEq, Prod.mk.injEq] at hs
    obtain ⟨rfl, rfl⟩ := hs
    rw [hx] at hxv
    generalize hxe : a.eval x = vx at hxv
    cases hxv with
    | mp _ hul =>
    obtain ⟨h0, ar, g1, g2⟩ := h.heap.obj _ _ hl
    exact ⟨m, _, _, hexec _ (by rw [hxe]; simp [Builtin.clear_, run_underlying hu, run_getMap g1, run_setMap _ g1]), h.turn (o := .map [] clk) (ob := .map #[] clk) hl (by simp) h0 (by simp) g1 (fun w' q1 _ => ⟨h0, #[], q1, .nil⟩), unit _⟩
  · rename_i l sz off hx
    split at hs
    case isFalse => cases hs
    rename_i ht
    obtain ⟨d, hd⟩ := Option.isSome_iff_exists.1 ht
    simp only [Option.some.injEq, Prod.mk.injEq] at hs
    rw [hx] at hxv
    generalize hxe : a.eval x = vx at hxv
    refine none' hs.1.symm hs.2.symm ?_
    rw [hxe]
    cases hxv <;> simp [Builtin.clear_, run_underlying hd]
  · rename_i l sz off len hlen hx
    split at hs
    case h_2 => cases hs
    rename_i T sz'' xs e sz' hl ht
    obtain ⟨hu, hz⟩ := slT_some ht
    split at hs
    case h_2 => cases hs
    rename_i z hzc
    split at hs
    case isFalse => cases hs
    rename_i hc
    simp only [Bool.and_eq_true, decide_eq_true_eq] at hc
    obtain ⟨⟨rfl, e2⟩, hzl, h0, hle, hcell⟩ := hc
    rw [e2] at hl
    simp only [Option.some.injEq, Prod.mk.injEq] at hs
    obtain ⟨rfl, rfl⟩ := hs
    have hpos : len ≠ 0 := fun e => hlen e
    obtain ⟨zv, g1, g2, g3⟩ := zeroC_ok (w := w) (F := F) (U := fun k => s.H k ≠ none) (m := m) hzc
    have hbase := zero_rep (len := len) h0 hzl (by omega) g2
    rw [hx] at hxv
    generalize hxe : a.eval x = vx at hxv
    cases hxv with
    | sl0 => exact absurd rfl hpos
    | sl _ _ _ _ cap o' hul hcap hoff hfit =>
    have hoff' := hoff.resolve_left (by omega)
    subst hoff'
    have hm0 : (m l).2 ≠ 0 := by
      intro hz
      rw [hz] at hfit
      have : 0 < (off + cap) * sz' := Nat.mul_pos (by omega) h0
      omega
    obtain ⟨w', k1, k2⟩ := h.splice (P := P) (off := off) (rows := List.replicate len z) hl hm0 (by simpa using hle) (fun r hr => by rw [List.eq_of_mem_replicate hr]; exact hzl) hbase (hbase.one (by
      rw [List.all_eq_true] at hcell ⊢
      intro x hx
      obtain ⟨r, hr, hxr⟩ := List.mem_flatten.1 hx
      rw [List.eq_of_mem_replicate hr] at hxr
      exact hcell x hxr))
    rw [List.length_replicate] at k2
    have hzs : zv.cells.size = sz' := by omega
    have hb : (Builtin.zeroCells zv.cells len).toList = ((Array.range (len * sz')).map fun k => zv.cells[k % zv.cells.size]!).toList := by unfold Builtin.zeroCells; rw [hzs]
    refine ⟨m, _, w', hexec _ ?_, k2, unit _⟩
    rw [hxe]
    rw [← hb] at k1
    cases len with
    | zero => exact absurd rfl hpos
    | succ n => simp [Builtin.clear_, run_underlying hu, g1, k1]
  · cases hs

/-! ### every operation but a call of a function -/
def wv (P : Program) (H : Heap) (nm : Loc) (ρ : Operand → FV) (o : Oper) : Option (List (Loc × FO) × FV) := match o.op with
  | .alloc t => wAlloc P H nm t
  | .box t x => wBox H nm t (ρ x)
  | .store t ad x => wStore P H t (ρ ad) (ρ x)
  | .buildSlice t len parts => wBuildS P H ρ nm t len parts
  | .makeSlice t x y => wMakeS P H nm t (ρ x) (ρ y)
  | .makeMap _ r => wMakeM P H nm (r.map ρ)
  | .mapUpdate t x k v => wMapU P H t (ρ x) (ρ k) (ρ v)
  | .insert t x k v => wMapU P H t (ρ x) (ρ k) (ρ v)
  | .range t x => wRange P H nm t (ρ x)
  | .next it str => wNext H (ρ it) str
  | .call { callee := .builtin .append, args := ⟨[x, y]⟩, argTypes := ⟨[t, tx]⟩ } => wApp P H nm t tx (ρ x) (ρ y)
  | .call { callee := .builtin .clear, args := ⟨[x]⟩, argTypes := ⟨[t]⟩ } => wClear P H t (ρ x)
  | _ => (pv P H ρ o).map fun v => ([], v)
theorem wv_ok {nm : Loc} {us : List (Loc × FO)} {v : FV} (hs : wv P s.H nm (rv s) o = some (us, v)) : WOk P s o us v := by
  unfold wv at hs
  split at hs
  · exact wAlloc_ok hs ‹_›
  · exact wBox_ok hs ‹_›
  · exact wStore_ok hs ‹_›
  · exact wBuildS_ok hs ‹_›
  · exact wMakeS_ok hs ‹_›
  · exact wMakeM_ok hs ‹_›
  · exact wMapU_ok hs (.inl ‹_›)
  · exact wMapU_ok hs (.inr ‹_›)
  · exact wRange_ok hs ‹_›
  · exact wNext_ok hs ‹_›
  · exact wApp_ok hs ‹_›
  · exact wClear_ok hs ‹_›
  · rw [Option.map_eq_some_iff] at hs
    obtain ⟨y, hy, e⟩ := hs
    simp only [Prod.mk.injEq] at e
    obtain ⟨rfl, rfl⟩ := e
    intro X F m a w h
    obtain ⟨u, h1, h2⟩ := pv_ok h hy
    exact ⟨m, u, w, .inl h1, h, h2⟩
end
end Go.FM
