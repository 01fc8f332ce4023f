/- One of the texts of a proof by an abstract machine over the model. -/
import Derived.Test.YtmhkendlllmodaaGreatDoorFmD
set_option linter.unusedSimpArgs false
set_option linter.unusedVariables false
namespace Go.FM
open Go

/-! ### operands -/
def cv1 : Value → FV
  | .int k n => .int k n
  | .bool b => .bool b
  | .string s => .str s
  | .slice none 0 0 => .nils
  | .pointer none => .nilp
  | .map none => .nilm
  | .nilFunc => .nilf
  | _ => .undef
def cv : Value → FV
  | .agg cs => .agg (cs.toList.map cv1)
  | .tuple ⟨[]⟩ => .tup []
  | v => cv1 v
def rv (s : FS) : Operand → FV
  | .tmp t => s.get t
  | .const c => cv c
  | .func f => .clo f [] []
  | .global _ => .undef

section
variable {P : Program} {X : Ctx} {c : Cfg} {w w' : World} {F F' : Nat → Prop} {U : Loc → Prop} {m m' : Loc → Nat × Nat} {s s' : FS} {a a' : Act} {H : Heap}

theorem RF.cv1 (v : Value) : RF w F U m (cv1 v) v := by
  unfold FM.cv1
  split
  · exact .int _ _
  · exact .bool _
  · exact .str _
  · exact .nils
  · exact .nilp
  · exact .nilm
  · exact .nilf
  · exact .undef _
theorem RF.cv (v : Value) : RF w F U m (cv v) v := by
  unfold FM.cv
  split
  · rename_i cs
    have : RFs w F U m (cs.toList.map FM.cv1) cs.toList := by
      generalize cs.toList = l
      induction l with
      | nil => exact .nil
      | cons x l ih => exact .cons _ _ _ _ (RF.cv1 x) ih
    exact .agg _ _ this
  · exact .tup [] [] .nil
  · exact RF.cv1 _
theorem rv_ok (h : RelX X F m s a w) (x : Operand) : RF w F (fun l => s.H l ≠ none) m (rv s x) (a.eval x) := by
  cases x with
  | tmp t => exact h.val t
  | const v => exact RF.cv v
  | func f => exact .clo f [] [] [] [] .nil .nil
  | global g => exact .undef _

/-! ### numbers, truth, text -/
def sc : FV → Bool
  | .int .. | .bool _ | .str _ => true
  | _ => false
def eqS : FV → FV → Option Bool
  | .int k m, .int k' n => if k = k' then some (decide (m = n)) else none
  | .bool m, .bool n => some (m == n)
  | .str m, .str n => some (m.data.toList == n.data.toList)
  | _, _ => none
def fBin (P : Program) (op : BinOp) (t : TypeId) (x y : FV) : Option FV := match x, y with
  | .int k m, .int k' n => if k = k' then (match op with
    | .add => some (.int k (k.wrap (m + n)))
    | .sub => some (.int k (k.wrap (m - n)))
    | .mul => some (.int k (k.wrap (m * n)))
    | .quo => if n = 0 then none else some (.int k (k.wrap (m.tdiv n)))
    | .rem => if n = 0 then none else some (.int k (m.tmod n))
    | .eql => some (.bool (decide (m = n)))
    | .neq => some (.bool (!decide (m = n)))
    | .lss => some (.bool (decide (m < n)))
    | .leq => some (.bool (decide (m ≤ n)))
    | .gtr => some (.bool (decide (m > n)))
    | .geq => some (.bool (decide (m ≥ n)))
    | _ => none) else none
  | .bool m, .bool n => if boolT P t then (match op with
    | .eql => some (.bool (m == n))
    | .neq => some (.bool (!(m == n)))
    | _ => none) else none
  | .str m, .str n => match op with
    | .eql => some (.bool (m.data.toList == n.data.toList))
    | .neq => some (.bool (!(m.data.toList == n.data.toList)))
    | .lss => some (.bool (Op.bytesLess m.data.toList n.data.toList))
    | .add => if ((m.size + n.size : Nat) : Int) ≤ 9223372036854775807 then some (.str (m ++ n)) else none
    | _ => none
  | _, _ => none
theorem run_eq_bool {t : TypeId} (ht : P.underlying t = some .bool) (m n : Bool) (w : World) : (Op.equal t (.bool m) (.bool n)).run P w = .ok (m == n) w := by
  have h : ∀ d : Nat, (Op.equalIn (d + 1) t (.bool m) (.bool n)).run P w = .ok (m == n) w := fun d => by simp [Op.equalIn, run_underlying ht]
  exact h 9999
theorem int_beq (m n : Int) : (m == n) = decide (m = n) := by by_cases h : m = n <;> simp [h]
theorem int_bne (m n : Int) : (m != n) = !decide (m = n) := by by_cases h : m = n <;> simp [h]
theorem fBin_ok {op : BinOp} {t : TypeId} {x y : Operand} {u v r : FV} {vx vy : Value} (h : fBin P op t u v = some r) (hu : RF w F U m u vx) (hv : RF w F U m v vy) :
    ∃ vr, ((do eqGuard op t x y vx vy; binOp op t vx vy : Sem Value).run P w = .ok vr w) ∧ RF w F U m r vr := by
  unfold fBin at h
  split at h
  · cases hu; cases hv
    split at h
    · rename_i hk; subst hk
      split at h
      case h_4 | h_5 =>
        split at h
        · cases h
        · rename_i h0
          obtain rfl := by simpa using h
          exact ⟨_, by simp [eqGuard, binOp, Op.intDiv, h0], .int _ _⟩
      all_goals first
        | (cases h; done)
        | (obtain rfl := by simpa using h
           first
            | exact ⟨_, by simp [eqGuard, binOp, Op.intArith], .int _ _⟩
            | exact ⟨_, by simp [eqGuard, binOp, Op.intCmp, int_beq, int_bne], .bool _⟩)
    · cases h
  · cases hu; cases hv
    split at h
    · rename_i hb
      have hbt := boolT_some hb
      split at h
      · obtain rfl := by simpa using h
        exact ⟨_, by simp only [eqGuard, binOp]; simp [run_eq_bool hbt], .bool _⟩
      · obtain rfl := by simpa using h
        exact ⟨_, by simp only [eqGuard, binOp]; simp [run_eq_bool hbt], .bool _⟩
      · cases h
    · cases h
  · cases hu; cases hv
    split at h
    · obtain rfl := by simpa using h
      exact ⟨_, by simp [eqGuard, binOp, Op.stringOp, ByteArray.toList_eq], .bool _⟩
    · obtain rfl := by simpa using h
      exact ⟨_, by simp [eqGuard, binOp, Op.stringOp, ByteArray.toList_eq], .bool _⟩
    · obtain rfl := by simpa using h
      exact ⟨_, by simp [eqGuard, binOp, Op.stringOp, ByteArray.toList_eq], .bool _⟩
    · split at h
      · rename_i hle
        obtain rfl := by simpa using h
        refine ⟨_, ?_, .str _⟩
        simp [eqGuard, binOp, Op.stringOp]
        omega
      · cases h
    · cases h
  · cases h
def fUn (op : UnOp) (x : FV) : Option FV := match op, x with
  | .not, .bool b => some (.bool (!b))
  | .neg, .int k n => some (.int k (k.wrap (0 - n)))
  | _, _ => none
theorem fUn_ok {op : UnOp} {x y : FV} {v : Value} (h : fUn op x = some y) (hx : RF w F U m x v) : ∃ u, (Op.unary op v).run P w = .ok u w ∧ RF w F U m y u := by
  unfold fUn at h
  split at h
  · obtain rfl := by simpa using h
    cases hx
    exact ⟨_, by simp [Op.unary], .bool _⟩
  · obtain rfl := by simpa using h
    cases hx
    exact ⟨_, by simp [Op.unary, Op.intArith], .int _ _⟩
  · cases h
def fConv (P : Program) (src dst : TypeId) (x : FV) : Option FV := match x with
  | .int _ n => if hasT P src then (intT P dst).map fun k => .int k (k.wrap n) else none
  | .str s => if strT P src && strT P dst then some (.str s) else none
  | _ => none
theorem fConv_ok {src dst : TypeId} {x y : FV} {v : Value} (h : fConv P src dst x = some y) (hx : RF w F U m x v) : ∃ u, (convert src dst v).run P w = .ok u w ∧ RF w F U m y u := by
  unfold fConv at h
  split at h
  · split at h
    · rename_i hsrc
      rw [Option.map_eq_some_iff] at h
      obtain ⟨k, hk, rfl⟩ := h
      have hk := intT_some hk
      obtain ⟨d, hd⟩ := Option.isSome_iff_exists.1 hsrc
      cases hx
      exact ⟨_, by simp [convert, run_underlying hd, run_underlying hk, Conv.intToInt], .int _ _⟩
    · cases h
  · split at h
    · rename_i hc
      rw [Bool.and_eq_true] at hc
      obtain rfl := by simpa using h
      cases hx
      exact ⟨_, by simp [convert, run_underlying (strT_some hc.1), run_underlying (strT_some hc.2)], .str _⟩
    · cases h
  · cases h

/-- a piece of a slice or a string -/
def natOf (n : Nat) : Option FV → Option Nat
  | none => some n
  | some (.int _ k) => if 0 ≤ k then some k.toNat else none
  | _ => none
def fSlice (P : Program) (t : TypeId) (x : FV) (lo hi : Option FV) : Option FV := match x with
  | .sl l sz off len => match slT P t, natOf 0 lo, natOf len hi with
    | some (_, sz'), some i, some j => if decide (sz' = sz) && (decide (i ≤ j) && decide (j ≤ len)) then some (.sl l sz (off + i) (j - i)) else none
    | _, _, _ => none
  | .list sz xs => match slT P t, natOf 0 lo, natOf xs.length hi with
    | some (_, sz'), some i, some j => if decide (sz' = sz) && (decide (i ≤ j) && decide (j ≤ xs.length)) then some (.list sz ((xs.drop i).take (j - i))) else none
    | _, _, _ => none
  | _ => none
theorem natOf_ok {d : Nat} {x : Option FV} {v : Option Value} {n y : Nat} {code : BoundsCode} (h : natOf d x = some n) (hx : ∀ f, x = some f → ∃ u, v = some u ∧ RF w F U m f u) (hn : x = none → v = none) (hle : n ≤ y) :
    (v = none ∧ n = d) ∨ ∃ k i, v = some (.int k i) ∧ 0 ≤ i ∧ n = i.toNat ∧ (Instr.sliceBound (.int k i) y code).run P w = .ok n w := by
  unfold natOf at h
  split at h
  · exact .inl ⟨hn rfl, by simpa using h.symm⟩
  · rename_i k i
    split at h
    · rename_i h0
      obtain rfl := by simpa using h
      obtain ⟨u, rfl, hu⟩ := hx _ rfl
      cases hu
      refine .inr ⟨k, i, rfl, h0, rfl, ?_⟩
      have hi : i ≤ (y : Int) := by omega
      simp [Instr.sliceBound, asIntOf, h0, hi]
    · cases h
  · cases h
theorem fSlice_ok {t : TypeId} {x y : FV} {lo hi : Option FV} {v : Value} {vlo vhi : Option Value} (h : fSlice P t x lo hi = some y) (hx : RF w F U m x v)
    (hlo : ∀ f, lo = some f → ∃ u, vlo = some u ∧ RF w F U m f u) (hlon : lo = none → vlo = none) (hhi : ∀ f, hi = some f → ∃ u, vhi = some u ∧ RF w F U m f u) (hhin : hi = none → vhi = none) :
    ∃ u, (Instr.sliceAt t v vlo vhi none).run P w = .ok u w ∧ RF w F U m y u := by
  unfold fSlice at h
  split at h
  · rename_i l sz off len
    split at h
    · rename_i e sz' i j ht hi' hj'
      obtain ⟨hu, hz⟩ := slT_some ht
      split at h
      · rename_i hc
        simp only [Bool.and_eq_true, decide_eq_true_eq] at hc
        obtain ⟨rfl, hij, hjl⟩ := hc
        obtain rfl := by simpa using h
        cases hx with
        | sl _ _ _ _ cap o hu' hcap ho hs =>
          have hrun : (Instr.sliceBounds true len cap vlo vhi none).run P w = .ok (i, j, cap) w := by
            have h1 := natOf_ok (P := P) (w := w) (code := .sliceAcap) (y := cap) hj' hhi hhin (by omega)
            have h2 := natOf_ok (P := P) (w := w) (code := .sliceB) (y := j) hi' hlo hlon hij
            unfold Instr.sliceBounds
            rcases h1 with ⟨rfl, rfl⟩ | ⟨k1, i1, rfl, _, _, h1⟩ <;> rcases h2 with ⟨rfl, rfl⟩ | ⟨k2, i2, rfl, _, _, h2⟩ <;> simp_all
          have hrun2 : (Instr.sliceAt t (.slice (some ⟨(m l).1, o, none⟩) len cap) vlo vhi none).run P w = .ok (.slice (if cap = i then some ⟨(m l).1, o, none⟩ else (some (⟨(m l).1, o, none⟩ : Addr)).map (·.add (i * sz'))) (j - i) (cap - i)) w := by
            simp [Instr.sliceAt, Instr.slice, run_underlying hu, hrun, run_szT hz]
          refine ⟨_, hrun2, ?_⟩
          by_cases hci : cap = i
          · rw [if_pos hci]
            exact .sl l sz' (off + i) (j - i) (cap - i) o hu' (by omega) (.inl (by omega)) (by rw [show off + i + (cap - i) = off + cap by omega]; exact hs)
          · rw [if_neg hci]
            simp only [Option.map_some, add0]
            have ho' : o = off * sz' := ho.resolve_left (by omega)
            exact .sl l sz' (off + i) (j - i) (cap - i) (o + i * sz') hu' (by omega) (.inr (by rw [ho', Nat.add_mul])) (by rw [show off + i + (cap - i) = off + cap by omega]; exact hs)
        | sl0 _ _ _ hu' h0 =>
          have hj0 : j = 0 := by omega
          have hi0 : i = 0 := by omega
          subst hj0 hi0
          have hrun : (Instr.sliceBounds true 0 0 vlo vhi none).run P w = .ok (0, 0, 0) w := by
            have h1 := natOf_ok (P := P) (w := w) (code := .sliceAcap) (y := 0) hj' hhi hhin (by omega)
            have h2 := natOf_ok (P := P) (w := w) (code := .sliceB) (y := 0) hi' hlo hlon hij
            unfold Instr.sliceBounds
            rcases h1 with ⟨rfl, _⟩ | ⟨k1, i1, rfl, _, _, h1⟩ <;> rcases h2 with ⟨rfl, _⟩ | ⟨k2, i2, rfl, _, _, h2⟩ <;> simp_all
          have hrun2 : (Instr.sliceAt t (.slice none 0 0) vlo vhi none).run P w = .ok (.slice none 0 0) w := by
            simp [Instr.sliceAt, Instr.slice, run_underlying hu, hrun, run_szT hz]
          exact ⟨_, hrun2, .sl0 l sz' _ hu' h0⟩
      · cases h
    · cases h
  · rename_i sz xs
    split at h
    · rename_i e sz' i j ht hi' hj'
      obtain ⟨hu, hz⟩ := slT_some ht
      split at h
      · rename_i hc
        simp only [Bool.and_eq_true, decide_eq_true_eq] at hc
        obtain ⟨rfl, hij, hjl⟩ := hc
        obtain rfl := by simpa using h
        cases hx with
        | list _ _ A cap vs hl hcap hm hvs =>
        have hrun : (Instr.sliceBounds true xs.length cap vlo vhi none).run P w = .ok (i, j, cap) w := by
          have h1 := natOf_ok (P := P) (w := w) (code := .sliceAcap) (y := cap) hj' hhi hhin (by omega)
          have h2 := natOf_ok (P := P) (w := w) (code := .sliceB) (y := j) hi' hlo hlon hij
          unfold Instr.sliceBounds
          rcases h1 with ⟨rfl, rfl⟩ | ⟨k1, i1, rfl, _, _, h1⟩ <;> rcases h2 with ⟨rfl, rfl⟩ | ⟨k2, i2, rfl, _, _, h2⟩ <;> simp_all
        have hrun2 : (Instr.sliceAt t (.slice A xs.length cap) vlo vhi none).run P w = .ok (.slice (if cap = i then A else A.map (·.add (i * sz'))) (j - i) (cap - i)) w := by
          simp [Instr.sliceAt, Instr.slice, run_underlying hu, hrun, run_szT hz]
        refine ⟨_, hrun2, ?_⟩
        have hlen : ((xs.drop i).take (j - i)).length = j - i := by simp; omega
        have hflat : ((xs.drop i).take (j - i)).flatten = (xs.flatten.drop (i * sz')).take ((j - i) * sz') := by
          have d : ∀ (n : Nat) (xs : List (List FV)), (∀ x ∈ xs, x.length = sz') → (xs.drop n).flatten = xs.flatten.drop (n * sz') := by
            intro n
            induction n with
            | zero => intro xs _; simp
            | succ n ih =>
              intro xs hl
              cases xs with
              | nil => simp
              | cons y ys =>
                have hy := hl y (by simp)
                rw [List.drop_succ_cons, ih ys (fun x hx => hl x (by simp [hx])), List.flatten_cons, Nat.add_mul, Nat.one_mul, Nat.add_comm, ← List.drop_drop]
                rw [show (y ++ ys.flatten).drop sz' = ys.flatten by rw [← hy]; simp]
          have tk : ∀ (n : Nat) (xs : List (List FV)), (∀ x ∈ xs, x.length = sz') → (xs.take n).flatten = xs.flatten.take (n * sz') := by
            intro n
            induction n with
            | zero => intro xs _; simp
            | succ n ih =>
              intro xs hl
              cases xs with
              | nil => simp
              | cons y ys =>
                have hy := hl y (by simp)
                rw [List.take_succ_cons, List.flatten_cons, ih ys (fun x hx => hl x (by simp [hx])), List.flatten_cons, Nat.add_mul, Nat.one_mul, Nat.add_comm, ← hy, List.take_length_add_append]
          rw [tk _ _ (fun x hx => hl x (List.mem_of_mem_drop hx)), d _ _ hl]
        have hsub := (hvs.drop (i * sz')).take ((j - i) * sz')
        rw [← hflat] at hsub
        have := RF.list (w := w) (F := F) (U := U) (m := m) sz' ((xs.drop i).take (j - i)) (if cap = i then A else A.map (·.add (i * sz'))) (cap - i) _ (fun x hx => hl x (List.mem_of_mem_drop (List.mem_of_mem_take hx))) (by rw [hlen]; omega) (fun hne => ?_) hsub
        · rw [hlen] at this; exact this
        · have hpos : 0 < j - i := by
            rcases Nat.eq_zero_or_pos (j - i) with h0 | h0
            · rw [h0] at hne; simp at hne
            · exact h0
          obtain ⟨ad, rfl, hF, hcell⟩ := hm (fun e => by subst e; simp at hjl; omega)
          rw [if_neg (by omega)]
          refine ⟨ad.add (i * sz'), rfl, by rw [block_add]; exact hF, fun k v hv => ?_⟩
          rw [List.getElem?_take] at hv
          split at hv
          · rw [List.getElem?_drop] at hv; rw [add_add]; exact hcell _ _ hv
          · cases hv
      · cases h
    · cases h
  · cases h
end
end Go.FM
