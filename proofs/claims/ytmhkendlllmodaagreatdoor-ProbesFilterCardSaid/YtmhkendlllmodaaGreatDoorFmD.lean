/- One of the texts of a proof by an abstract machine over the model. -/
import Derived.Test.YtmhkendlllmodaaGreatDoorFmC
set_option linter.unusedSimpArgs false
set_option linter.unusedVariables false
namespace Go.FM
open Go

def FV.cellV : FV → Bool
  | .agg _ | .tup _ | .undef => false
  | _ => true
def FV.cellsL : FV → List FV
  | .agg cs => cs
  | v => [v]
def FV.storable : FV → Bool
  | .agg cs => cs.all FV.cellV
  | x => x.cellV

section
variable {P : Program} {X : Ctx} {c : Cfg} {w w' : World} {F F' : Nat → Prop} {U : Loc → Prop} {m m' : Loc → Nat × Nat} {s s' : FS} {a a' : Act}

theorem RF.one {x : FV} {v : Value} (h : RF w F U m x v) (hx : x.cellV = true) : v.oneCell' = true := by
  cases h <;> first | rfl | (simp [FV.cellV] at hx)
theorem RFs.one : ∀ {xs : List FV} {vs : List Value}, RFs w F U m xs vs → xs.all FV.cellV = true → ∀ v ∈ vs, v.oneCell' = true
  | _, _, .nil, _ => by simp
  | _, _, .cons a v as vs h hs, hx => by
    simp only [List.all_cons, Bool.and_eq_true] at hx
    intro u hu
    rcases List.mem_cons.1 hu with rfl | hu
    · exact h.one hx.1
    · exact RFs.one hs hx.2 u hu
theorem RF.cells {x : FV} {v : Value} (h : RF w F U m x v) (hx : x.storable = true) : RFs w F U m x.cellsL v.cells.toList ∧ x.cellsL.all FV.cellV = true := by
  cases h with
  | agg cs vs hc => exact ⟨by simpa [FV.cellsL, Value.cells] using hc, hx⟩
  | tup => simp [FV.storable, FV.cellV] at hx
  | undef => simp [FV.storable, FV.cellV] at hx
  | int => exact ⟨.cons _ _ _ _ (.int _ _) .nil, rfl⟩
  | bool => exact ⟨.cons _ _ _ _ (.bool _) .nil, rfl⟩
  | str => exact ⟨.cons _ _ _ _ (.str _) .nil, rfl⟩
  | list _ _ _ _ _ h1 h2 h3 h4 => exact ⟨.cons _ _ _ _ (.list _ _ _ _ _ h1 h2 h3 h4) .nil, rfl⟩
  | ref _ _ _ h1 h2 h3 => exact ⟨.cons _ _ _ _ (.ref _ _ _ h1 h2 h3) .nil, rfl⟩
  | ptr _ _ _ _ hu => exact ⟨.cons _ _ _ _ (.ptr _ _ _ _ hu) .nil, rfl⟩
  | nilp => exact ⟨.cons _ _ _ _ .nilp .nil, rfl⟩
  | sl _ _ _ _ _ _ h1 h2 h3 h4 => exact ⟨.cons _ _ _ _ (.sl _ _ _ _ _ _ h1 h2 h3 h4) .nil, rfl⟩
  | sl0 _ _ _ h1 h2 => exact ⟨.cons _ _ _ _ (.sl0 _ _ _ h1 h2) .nil, rfl⟩
  | nils => exact ⟨.cons _ _ _ _ .nils .nil, rfl⟩
  | mp _ hu => exact ⟨.cons _ _ _ _ (.mp _ hu) .nil, rfl⟩
  | nilm => exact ⟨.cons _ _ _ _ .nilm .nil, rfl⟩
  | clo _ _ _ _ _ h1 h2 => exact ⟨.cons _ _ _ _ (.clo _ _ _ _ _ h1 h2) .nil, rfl⟩
  | nilf => exact ⟨.cons _ _ _ _ .nilf .nil, rfl⟩
  | emp A => exact ⟨.cons _ _ _ _ (.emp A) .nil, rfl⟩

/-- a new row of cells -/
theorem RelX.alloc (h : RelX X F m s a w) {l : Loc} {cells : Array Value} {T : TypeId} {rows : List (List FV)} {sz : Nat} (hl : s.H l = none) (hr : RFs w F (fun k => s.H k ≠ none) m rows.flatten (cells.toList.take (rows.length * sz)))
    (hlen : ∀ x ∈ rows, x.length = sz) (hsz : rows.length * sz ≤ cells.size) (h0 : cells.size ≠ 0) :
    RelX X F (fun k => if k = l then (w.heap.size, cells.size) else m k) { s with H := upd s.H l (.cells T sz rows) } a (w.alloc (.cells cells T (0, 0))) := by
  have hold : ∀ b, b < w.heap.size → (w.alloc (.cells cells T (0, 0))).heap[b]? = w.heap[b]? := fun b hb => by
    show (w.heap.push _)[b]? = _
    rw [Array.getElem?_push, if_neg (by omega)]
  have hnew : (w.alloc (.cells cells T (0, 0))).heap[w.heap.size]? = some (.cells cells T (0, 0)) := by
    show (w.heap.push _)[w.heap.size]? = _
    simp
  refine h.fresh hl (by show w.heap.size < (w.heap.push _).size; simp) hold rfl rfl rfl (.inr ⟨by simpa using h0, cells, by simpa using hnew, by simp, hlen, hsz, ?_⟩)
  refine hr.keep (fun _ h => h) (fun b hb => hold b (h.frz b hb)) (fun k hk => ?_) (fun k hk => ?_)
  · unfold upd; split <;> simp [hk]
  · have : k ≠ l := fun e => hk (e ▸ hl)
    simp [this]

/-- cells of a named block are written -/
theorem RelX.store (h : RelX X F m s a w) {l : Loc} {T : TypeId} {sz i off : Nat} {xs : List (List FV)} {r cs : List FV} {vs : List Value} (hl : s.H l = some (.cells T sz xs)) (hr : xs[i]? = some r) (hle : off + cs.length ≤ r.length)
    (hv : RFs w F (fun k => s.H k ≠ none) m cs vs) (h1 : ∀ v ∈ vs, v.oneCell' = true) :
    ∃ w', (storeCells ⟨(m l).1, i * sz + off, none⟩ vs).run P w = .ok () w' ∧ RelX X F m { s with H := upd s.H l (.cells T sz (xs.modify i fun r => r.take off ++ cs ++ r.drop (off + cs.length))) } a w' := by
  have hlen := hv.length
  rcases h.heap.obj l _ hl with ⟨rfl, _⟩ | ⟨h0, cur, g1, g2, g3, g4, g5⟩
  · simp at hr
  have hrl := g3 r (List.mem_of_getElem? hr)
  have hi : i < xs.length := by rw [List.getElem?_eq_some_iff] at hr; exact hr.1
  have hmul : (i + 1) * sz ≤ xs.length * sz := Nat.mul_le_mul_right _ hi
  have hmul' : i * sz + sz ≤ xs.length * sz := by rw [Nat.add_mul] at hmul; omega
  have hst := run_storeCells_at P (m l).1 (i * sz + off) T vs 0 cur w g1 (by omega) h1
  simp only [Nat.add_zero] at hst
  refine ⟨_, hst, ?_⟩
  have hlive : Live s.H m l := ⟨_, hl, by simp, h0⟩
  have hU : ∀ k, s.H k ≠ none → upd s.H l (.cells T sz (xs.modify i fun r => r.take off ++ cs ++ r.drop (off + cs.length))) k ≠ none := fun k hk => by unfold upd; split <;> simp [hk]
  have hFne : ∀ b, F b → (w.setRow (m l).1 (cur.toList.take (i * sz + off) ++ vs ++ cur.toList.drop (i * sz + off + vs.length)).toArray).heap[b]? = w.heap[b]? := fun b hb =>
    setRow_other w _ b _ (fun e => (h.heap.old l hlive).2 (e ▸ hb))
  refine h.write hl hlive (by simp) (by simp [World.setRow]) (fun b _ hb => setRow_other w _ b _ hb) rfl rfl rfl ?_
  · refine .inr ⟨h0, _, setRow_heap w _ cur _ T _ g1, ?_, ?_, ?_, ?_⟩
    · simp; omega
    · intro x hx
      obtain ⟨j, hj⟩ := List.getElem?_of_mem hx
      rw [List.getElem?_modify] at hj
      cases hxj : xs[j]? with
      | none => simp [hxj] at hj
      | some y =>
        have hy := g3 y (List.mem_of_getElem? hxj)
        simp [hxj] at hj
        subst hj
        split
        · simp [hy]; omega
        · exact hy
    · simp; omega
    · rw [List.length_modify]
      have e1 : (xs.modify i fun r => r.take off ++ cs ++ r.drop (off + cs.length)).flatten = (xs.flatten.take (i * sz + off)) ++ cs ++ (xs.flatten.drop (i * sz + off + cs.length)) := by
        have key : ∀ (xs : List (List FV)) (i : Nat) (r : List FV), (∀ x ∈ xs, x.length = sz) → xs[i]? = some r →
            (xs.modify i fun r => r.take off ++ cs ++ r.drop (off + cs.length)).flatten = (xs.flatten.take (i * sz + off)) ++ cs ++ (xs.flatten.drop (i * sz + off + cs.length)) := by
          intro xs
          induction xs with
          | nil => intro i r _ h; simp at h
          | cons y ys ih =>
            intro i r hl h
            have hy := hl y (by simp)
            cases i with
            | zero =>
              simp at h
              subst h
              simp only [List.modify_zero_cons, List.flatten_cons, Nat.zero_mul, Nat.zero_add]
              rw [List.take_append_of_le_length (by omega), List.drop_append_of_le_length (by omega)]
              simp [List.append_assoc]
            | succ i =>
              rw [List.modify_succ_cons, List.flatten_cons, ih i r (fun x hx => hl x (by simp [hx])) (by simpa using h), List.flatten_cons, Nat.add_mul, Nat.one_mul]
              have e2 : i * sz + sz + off = y.length + (i * sz + off) := by omega
              rw [e2, List.take_length_add_append, show y.length + (i * sz + off) + cs.length = y.length + (i * sz + off + cs.length) by omega, List.drop_length_add_append]
              simp [List.append_assoc]
        exact key xs i r g3 hr
      rw [e1]
      have hfl := flat_length sz xs g3
      have hg5l := g5.length
      have e3 : ((cur.toList.take (i * sz + off) ++ vs ++ cur.toList.drop (i * sz + off + vs.length)).toArray.toList.take (xs.length * sz)) =
          ((cur.toList.take (xs.length * sz)).take (i * sz + off)) ++ vs ++ ((cur.toList.take (xs.length * sz)).drop (i * sz + off + cs.length)) := by
        have hcl : cur.toList.length = cur.size := by simp
        rw [List.toList_toArray, ← hlen, List.take_take, Nat.min_eq_left (by omega)]
        rw [List.take_append, List.take_of_length_le (by simp; omega)]
        congr 1
        simp only [List.length_append, List.length_take]
        rw [Nat.min_eq_left (by omega), List.drop_take]
        congr 1
        omega
      rw [e3]
      have hk := g5.keep (F' := F) (fun _ h => h) hFne hU (fun _ _ => rfl) (m' := m)
      exact ((hk.take _).append (hv.keep (fun _ h => h) hFne hU (fun _ _ => rfl))).append (hk.drop _)
end
end Go.FM
