/- One of the texts of a proof by an abstract machine over the model. -/
import Derived.Test.YtmhkendlllmodaaGreatDoorFmE
set_option linter.unusedSimpArgs false
set_option linter.unusedVariables false
namespace Go.FM
open Go

/-! ### equality of plain values and of flat structs -/
inductive Kd where
  | int (k : IntKind)
  | bool
  | str
  deriving DecidableEq
def kdT (P : Program) (t : TypeId) : Option Kd := match P.underlying t with
  | some (.int k) => some (.int k)
  | some .bool => some .bool
  | some .string => some .str
  | _ => none
def FV.kd : FV → Option Kd
  | .int k _ => some (.int k)
  | .bool _ => some .bool
  | .str _ => some .str
  | _ => none
def eqV : FV → FV → Bool
  | .int _ m, .int _ n => decide (m = n)
  | .bool m, .bool n => m == n
  | .str m, .str n => m.data.toList == n.data.toList
  | _, _ => false
def flatF (P : Program) : List Field → Nat → Option (List Kd)
  | [], _ => some []
  | f :: fs, i => if f.offset = i then (if f.name = "_" then none else match kdT P f.type with
    | some k => (flatF P fs (i + 1)).map (k :: ·)
    | none => none) else none
def stT (P : Program) (t : TypeId) : Option (List Kd) := match P.underlying t with
  | some (.struct fs) => if P.stoodInHeld t then none else flatF P fs.toList 0
  | _ => none
def eqCells : List Kd → List FV → List FV → Option Bool
  | [], _, _ => some true
  | k :: ks, x :: xs, y :: ys => if x.kd = some k then (if y.kd = some k then (eqCells ks xs ys).map (eqV x y && ·) else none) else none
  | _, _, _ => none
def eqK (P : Program) (t : TypeId) (x y : FV) : Option Bool := match kdT P t with
  | some k => if x.kd = some k then (if y.kd = some k then some (eqV x y) else none) else none
  | none => match stT P t, x, y with
    | some ks, .agg xs, .agg ys => if xs.length = ks.length then (if ys.length = ks.length then eqCells ks xs ys else none) else none
    | _, _, _ => none

section
variable {P : Program} {w : World} {F : Nat → Prop} {U : Loc → Prop} {m : Loc → Nat × Nat}

theorem kdT_cell {t : TypeId} {k : Kd} (h : kdT P t = some k) (w : World) : (isAgg t).run P w = .ok false w := by
  unfold kdT at h
  split at h <;> first | (cases h; done) | (rename_i hu; simp [isAgg, run_underlying hu])
theorem eqV_run {t : TypeId} {k : Kd} (h : kdT P t = some k) {x y : FV} {vx vy : Value} (hx : RF w F U m x vx) (hy : RF w F U m y vy) (h1 : x.kd = some k) (h2 : y.kd = some k) (d : Nat) (w' : World) : (Op.equalIn (d + 1) t vx vy).run P w' = .ok (eqV x y) w' := by
  unfold kdT at h
  cases hx <;> simp only [FV.kd, Option.some.injEq, reduceCtorEq] at h1 <;> subst h1 <;> cases hy <;> simp only [FV.kd, Option.some.injEq, reduceCtorEq, Kd.int.injEq] at h2
  · subst h2
    split at h <;> simp only [Option.some.injEq, reduceCtorEq, Kd.int.injEq] at h
    rename_i hu; subst h
    simp only [eqV]; rw [run_equalIn_int w' d t _ _ _ _ hu, int_beq]
  · split at h <;> simp only [Option.some.injEq, reduceCtorEq] at h
    rename_i hu
    simp only [eqV]; exact run_equalIn_bool' w' d t _ _ hu
  · split at h <;> simp only [Option.some.injEq, reduceCtorEq] at h
    rename_i hu
    simp only [eqV]; rw [← ByteArray.toList_eq, ← ByteArray.toList_eq]; exact run_equalIn_string w' d t _ _ hu
theorem part_run {t : TypeId} {k : Kd} (h : kdT P t = some k) {cs : Array Value} {off : Nat} {v : Value} (hv : cs[off]? = some v) (w : World) : (part t cs off).run P w = .ok v w := by
  simp [part, kdT_cell h, hv]
theorem eqFields_run (xs ys : Array Value) (d : Nat) : ∀ (fs : List Field) (ks : List Kd) (i : Nat) (as bs : List FV) (us vs : List Value) (b : Bool), flatF P fs i = some ks → eqCells ks as bs = some b → RFs w F U m as us → RFs w F U m bs vs →
    (∀ j, us[j]? = xs[i + j]?) → (∀ j, vs[j]? = ys[i + j]?) → ∀ w', (Op.eqFields (d + 1) xs ys fs).run P w' = .ok b w'
  | [], ks, i, as, bs, us, vs, b, h, he, _, _, _, _, w' => by
    obtain rfl : [] = ks := by simpa [flatF] using h
    obtain rfl : true = b := by simpa [eqCells] using he
    simp [Op.eqFields]
  | f :: fs, ks, i, as, bs, us, vs, b, h, he, ha, hb, hx, hy, w' => by
    unfold flatF at h
    split at h
    case isFalse => cases h
    rename_i ho
    split at h
    case isTrue => cases h
    rename_i hn
    split at h
    case h_2 => cases h
    rename_i k hk
    rw [Option.map_eq_some_iff] at h
    obtain ⟨ks', hks, rfl⟩ := h
    cases ha with
    | nil => simp [eqCells] at he
    | cons a u as us ha has =>
    cases hb with
    | nil => simp [eqCells] at he
    | cons b' v bs vs hb hbs =>
    simp only [eqCells] at he
    split at he
    case isFalse => cases he
    rename_i k1
    split at he
    case isFalse => cases he
    rename_i k2
    rw [Option.map_eq_some_iff] at he
    obtain ⟨b2, he, rfl⟩ := he
    have hux : xs[f.offset]? = some u := by rw [ho]; have := hx 0; simpa using this.symm
    have huy : ys[f.offset]? = some v := by rw [ho]; have := hy 0; simpa using this.symm
    have ih := eqFields_run xs ys d fs ks' (i + 1) as bs us vs b2 hks he has hbs (fun j => by have := hx (j + 1); rw [Nat.add_assoc, Nat.add_comm 1 j]; simpa using this) (fun j => by have := hy (j + 1); rw [Nat.add_assoc, Nat.add_comm 1 j]; simpa using this)
    unfold Op.eqFields
    rw [if_pos hn]
    simp only [Sem.run_bind, part_run hk hux, part_run hk huy, Result.andThen_ok, eqV_run hk ha hb k1 k2]
    cases hq : eqV a b'
    · simp
    · simpa using ih w'
theorem eqK_ok {t : TypeId} {x y : FV} {vx vy : Value} {b : Bool} (h : eqK P t x y = some b) (hx : RF w F U m x vx) (hy : RF w F U m y vy) (d : Nat) (w' : World) : (Op.equalIn (d + 1 + 1) t vx vy).run P w' = .ok b w' := by
  unfold eqK at h
  split at h
  · rename_i k hk
    split at h
    case isFalse => cases h
    split at h
    case isFalse => cases h
    obtain rfl := by simpa using h
    exact eqV_run hk hx hy ‹_› ‹_› _ _
  · split at h
    case h_2 => cases h
    rename_i ks xs ys hst
    split at h
    case isFalse => cases h
    split at h
    case isFalse => cases h
    cases hx with
    | agg _ us hus =>
    cases hy with
    | agg _ vs hvs =>
    unfold stT at hst
    split at hst
    case h_2 => cases hst
    rename_i fs hu
    split at hst
    case isTrue => cases hst
    rename_i hso
    have hf : P.fieldsOf t = fs := by simp [Program.fieldsOf, hu]
    rw [run_equalIn_struct w' (d + 1) t _ _ (by rw [hf]; exact hu) (by simpa using hso), hf]
    exact eqFields_run _ _ d fs.toList ks 0 _ _ us vs b hst h hus hvs (by simp) (by simp) w'
theorem eqK_equal {t : TypeId} {x y : FV} {vx vy : Value} {b : Bool} (h : eqK P t x y = some b) (hx : RF w F U m x vx) (hy : RF w F U m y vy) (w' : World) : (Op.equal t vx vy).run P w' = .ok b w' := eqK_ok h hx hy 9998 w'

/-- equal keys are the same to the last bit -/
theorem eqV_same {k : Kd} {x y : FV} {vx vy : Value} (hx : RF w F U m x vx) (hy : RF w F U m y vy) (h1 : x.kd = some k) (h2 : y.kd = some k) (h : eqV x y = true) (n : Nat) : Instr.sameBits n vx vy = true := by
  cases hx <;> simp only [FV.kd, Option.some.injEq, reduceCtorEq] at h1 <;> subst h1 <;> cases hy <;> simp only [FV.kd, Option.some.injEq, reduceCtorEq, Kd.int.injEq] at h2
  · subst h2; simp only [eqV, decide_eq_true_eq] at h; subst h; simp [Instr.sameBits]
  · simp only [eqV, beq_iff_eq] at h; subst h; simp [Instr.sameBits]
  · simp only [eqV, ← ByteArray.toList_eq, ← beq_toListBytes] at h; simpa [Instr.sameBits] using h
theorem eqCells_same (n : Nat) : ∀ (ks : List Kd) (as bs : List FV) (us vs : List Value), as.length = ks.length → bs.length = ks.length → eqCells ks as bs = some true → RFs w F U m as us → RFs w F U m bs vs → ((us.zip vs).all fun (x, y) => Instr.sameBits n x y) = true
  | [], as, bs, us, vs, ha0, hb0, _, ha, hb => by
    obtain rfl : as = [] := List.eq_nil_of_length_eq_zero ha0
    cases ha; simp
  | k :: ks, as, bs, us, vs, ha0, hb0, h, ha, hb => by
    cases ha with
    | nil => simp at ha0
    | cons a u as us ha has =>
    cases hb with
    | nil => simp at hb0
    | cons b v bs vs hb hbs =>
    simp only [eqCells] at h
    split at h
    case isFalse => cases h
    rename_i k1
    split at h
    case isFalse => cases h
    rename_i k2
    rw [Option.map_eq_some_iff] at h
    obtain ⟨b2, h, hb2⟩ := h
    rw [Bool.and_eq_true] at hb2
    obtain ⟨h3, rfl⟩ := hb2
    have ih := eqCells_same n ks as bs us vs (by simpa using ha0) (by simpa using hb0) h has hbs
    simp only [List.zip_cons_cons, List.all_cons, eqV_same ha hb k1 k2 h3 n, Bool.true_and]
    exact ih
theorem eqK_same {t : TypeId} {x y : FV} {vx vy : Value} (h : eqK P t x y = some true) (hx : RF w F U m x vx) (hy : RF w F U m y vy) (n : Nat) : Instr.sameBits (n + 1) vx vy = true := by
  unfold eqK at h
  split at h
  · split at h
    case isFalse => cases h
    split at h
    case isFalse => cases h
    exact eqV_same hx hy ‹_› ‹_› (by simpa using h) _
  · split at h
    case h_2 => cases h
    rename_i ks xs ys hst
    split at h
    case isFalse => cases h
    rename_i h1
    split at h
    case isFalse => cases h
    rename_i h2
    cases hx with
    | agg _ us hus =>
    cases hy with
    | agg _ vs hvs =>
    have e1 := hus.length
    have e2 := hvs.length
    simp only [Instr.sameBits, Bool.and_eq_true]
    exact ⟨by simp; omega, eqCells_same n ks _ _ us vs h1 h2 h hus hvs⟩

/-! ### comparisons of structs; comparisons with nil -/
inductive NK where
  | ptr
  | sl
  | mp
  | fn
  deriving DecidableEq
def nilT (P : Program) (t : TypeId) : Option NK := match P.underlying t with
  | some (.pointer _) => some .ptr
  | some (.slice _) => some .sl
  | some (.map _ _) => some .mp
  | some (.func _ _ _) => some .fn
  | _ => none
/-- is it nil? -/
def nilV : NK → FV → Option Bool
  | .ptr, .nilp => some true
  | .ptr, .ptr .. => some false
  | .ptr, .ref _ => some false
  | .sl, .nils => some true
  | .sl, .sl _ _ _ (_ + 1) => some false
  | .mp, .nilm => some true
  | .mp, .mp _ => some false
  | .fn, .nilf => some true
  | .fn, .clo .. => some false
  | _, _ => none
def isNil : FV → Bool
  | .nilp | .nils | .nilm | .nilf => true
  | _ => false
/-- x == y, one of the two nil -/
def eqNil (k : NK) (x y : FV) : Option Bool := match nilV k x, nilV k y with
  | some true, some b => some b
  | some b, some true => some b
  | _, _ => none
def NVal : NK → Bool → Value → Prop
  | .ptr, b, v => ∃ A : Option Addr, v = .pointer A ∧ A.isNone = b
  | .sl, b, v => ∃ (A : Option Addr) (n c : Nat), v = .slice A n c ∧ A.isNone = b
  | .mp, b, v => ∃ A : Option Nat, v = .map A ∧ A.isNone = b
  | .fn, true, v => v = .nilFunc
  | .fn, false, v => ∃ f a c, v = .func f a c
theorem nilV_run {k : NK} {x : FV} {v : Value} {b : Bool} (h : nilV k x = some b) (hx : RF w F U m x v) : NVal k b v := by
  unfold nilV at h
  split at h <;> first | (cases h; done) | skip
  all_goals
    obtain rfl := Option.some.inj h
    cases hx
  · exact ⟨none, rfl, rfl⟩
  · exact ⟨_, rfl, rfl⟩
  · exact ⟨_, rfl, rfl⟩
  · exact ⟨none, _, _, rfl, rfl⟩
  · exact ⟨_, _, _, rfl, rfl⟩
  · exact ⟨none, rfl, rfl⟩
  · exact ⟨_, rfl, rfl⟩
  · rfl
  · exact ⟨_, _, _, rfl⟩
theorem eqNil_vals {k : NK} {x y : FV} {vx vy : Value} {b : Bool} (h : eqNil k x y = some b) (hx : RF w F U m x vx) (hy : RF w F U m y vy) : (NVal k true vx ∧ NVal k b vy) ∨ (NVal k b vx ∧ NVal k true vy) := by
  unfold eqNil at h
  split at h
  · rename_i b' h1 h2
    obtain rfl := Option.some.inj h
    exact .inl ⟨nilV_run h1 hx, nilV_run h2 hy⟩
  · rename_i b' _ h1 h2
    obtain rfl := Option.some.inj h
    exact .inr ⟨nilV_run h1 hx, nilV_run h2 hy⟩
  · cases h
theorem nil_run {t : TypeId} {k : NK} (ht : nilT P t = some k) {vx vy : Value} {b : Bool} (h : (NVal k true vx ∧ NVal k b vy) ∨ (NVal k b vx ∧ NVal k true vy)) (op : BinOp) (x y : Operand) (w' : World) :
    (eqGuard op t x y vx vy).run P w' = .ok () w' ∧ (binOp .eql t vx vy).run P w' = .ok (.bool b) w' ∧ (binOp .neq t vx vy).run P w' = .ok (.bool !b) w' := by
  have fin : ∀ vx vy, (Op.equal t vx vy).run P w' = .ok b w' → binOp .eql t vx vy = (do pure (.bool (← Op.equal t vx vy))) → binOp .neq t vx vy = (do pure (.bool (!(← Op.equal t vx vy)))) →
      (binOp .eql t vx vy).run P w' = .ok (.bool b) w' ∧ (binOp .neq t vx vy).run P w' = .ok (.bool !b) w' := fun vx vy h e1 e2 => ⟨by rw [e1, Sem.run_bind, h]; rfl, by rw [e2, Sem.run_bind, h]; rfl⟩
  have eqs : ∀ vx vy, (∀ d, (Op.equalIn (d + 1) t vx vy).run P w' = .ok b w') → (Op.equal t vx vy).run P w' = .ok b w' := fun _ _ h => h 9999
  unfold nilT at ht
  split at ht <;> first | (cases ht; done) | skip
  all_goals
    rename_i hu
    obtain rfl := Option.some.inj ht
  · rcases h with ⟨⟨A, rfl, hA⟩, ⟨B, rfl, hB⟩⟩ | ⟨⟨A, rfl, hA⟩, ⟨B, rfl, hB⟩⟩
    · obtain rfl : A = none := by simpa using hA
      have := eqs (.pointer none) (.pointer B) fun d => by subst hB; rw [Op.equalIn, Sem.run_bind, run_underlying hu]; cases B <;> rfl
      exact ⟨by cases op <;> rfl, fin _ _ this rfl rfl⟩
    · obtain rfl : B = none := by simpa using hB
      have := eqs (.pointer A) (.pointer none) fun d => by subst hA; rw [Op.equalIn, Sem.run_bind, run_underlying hu]; cases A <;> rfl
      exact ⟨by cases op <;> rfl, fin _ _ this rfl rfl⟩
  · rcases h with ⟨⟨A, n, c, rfl, hA⟩, ⟨B, n', c', rfl, hB⟩⟩ | ⟨⟨A, n, c, rfl, hA⟩, ⟨B, n', c', rfl, hB⟩⟩
    · obtain rfl : A = none := by simpa using hA
      have := eqs (.slice none n c) (.slice B n' c') fun d => by subst hB; rw [Op.equalIn, Sem.run_bind, run_underlying hu]; cases B <;> rfl
      exact ⟨by cases op <;> rfl, fin _ _ this rfl rfl⟩
    · obtain rfl : B = none := by simpa using hB
      have := eqs (.slice A n c) (.slice none n' c') fun d => by subst hA; rw [Op.equalIn, Sem.run_bind, run_underlying hu]; cases A <;> rfl
      exact ⟨by cases op <;> rfl, fin _ _ this rfl rfl⟩
  · rcases h with ⟨⟨A, rfl, hA⟩, ⟨B, rfl, hB⟩⟩ | ⟨⟨A, rfl, hA⟩, ⟨B, rfl, hB⟩⟩
    · obtain rfl : A = none := by simpa using hA
      have := eqs (.map none) (.map B) fun d => by subst hB; rw [Op.equalIn, Sem.run_bind, run_underlying hu]; cases B <;> rfl
      exact ⟨by cases op <;> rfl, fin _ _ this rfl rfl⟩
    · obtain rfl : B = none := by simpa using hB
      have := eqs (.map A) (.map none) fun d => by subst hA; rw [Op.equalIn, Sem.run_bind, run_underlying hu]; cases A <;> rfl
      exact ⟨by cases op <;> rfl, fin _ _ this rfl rfl⟩
  · cases b
    · rcases h with ⟨rfl, ⟨f, a, c, rfl⟩⟩ | ⟨⟨f, a, c, rfl⟩, rfl⟩
      · have := eqs .nilFunc (.func f a c) fun d => by rw [Op.equalIn, Sem.run_bind, run_underlying hu]; rfl
        exact ⟨by cases op <;> rfl, fin _ _ this rfl rfl⟩
      · have := eqs (.func f a c) .nilFunc fun d => by rw [Op.equalIn, Sem.run_bind, run_underlying hu]; rfl
        exact ⟨by cases op <;> rfl, fin _ _ this rfl rfl⟩
    · rcases h with ⟨rfl, rfl⟩ | ⟨rfl, rfl⟩
      all_goals
        have := eqs .nilFunc .nilFunc fun d => by rw [Op.equalIn, Sem.run_bind, run_underlying hu]; rfl
        exact ⟨by cases op <;> rfl, fin _ _ this rfl rfl⟩
def fCmpB (P : Program) (t : TypeId) (x y : FV) : Option Bool := match x, y with
  | .agg _, .agg _ => if P.eqGuardType P.depth t then none else eqK P t x y
  | _, _ => match nilT P t with
    | some k => eqNil k x y
    | none => none
def fCmp (P : Program) (op : BinOp) (t : TypeId) (x y : FV) : Option FV := match op with
  | .eql => (fCmpB P t x y).map .bool
  | .neq => (fCmpB P t x y).map fun b => .bool !b
  | _ => none
theorem fCmpB_ok {op : BinOp} {t : TypeId} {x y : Operand} {u v : FV} {vx vy : Value} {b : Bool} (h : fCmpB P t u v = some b) (hu : RF w F U m u vx) (hv : RF w F U m v vy) (w' : World) :
    (eqGuard op t x y vx vy).run P w' = .ok () w' ∧ (binOp .eql t vx vy).run P w' = .ok (.bool b) w' ∧ (binOp .neq t vx vy).run P w' = .ok (.bool !b) w' := by
  unfold fCmpB at h
  split at h
  · split at h
    case isTrue => cases h
    rename_i hg
    have he := eqK_ok h hu hv 9998 w'
    cases hu; cases hv
    exact ⟨run_eqGuard_agg w' op t x y _ _ (by simpa using hg), by rw [run_eql_struct, he]; rfl, by rw [run_neq_struct, he]; rfl⟩
  · split at h
    · rename_i k hk
      exact nil_run hk (eqNil_vals h hu hv) op x y w'
    · cases h
theorem fCmp_ok {op : BinOp} {t : TypeId} {x y : Operand} {u v r : FV} {vx vy : Value} (h : fCmp P op t u v = some r) (hu : RF w F U m u vx) (hv : RF w F U m v vy) :
    ∃ vr, ((do eqGuard op t x y vx vy; binOp op t vx vy : Sem Value).run P w = .ok vr w) ∧ RF w F U m r vr := by
  unfold fCmp at h
  split at h
  · rw [Option.map_eq_some_iff] at h
    obtain ⟨b, hb, rfl⟩ := h
    obtain ⟨h1, h2, h3⟩ := fCmpB_ok (op := .eql) (x := x) (y := y) hb hu hv w
    exact ⟨_, by rw [Sem.run_bind, h1]; exact h2, .bool b⟩
  · rw [Option.map_eq_some_iff] at h
    obtain ⟨b, hb, rfl⟩ := h
    obtain ⟨h1, h2, h3⟩ := fCmpB_ok (op := .neq) (x := x) (y := y) hb hu hv w
    exact ⟨_, by rw [Sem.run_bind, h1]; exact h3, .bool !b⟩
  · cases h
end
end Go.FM
