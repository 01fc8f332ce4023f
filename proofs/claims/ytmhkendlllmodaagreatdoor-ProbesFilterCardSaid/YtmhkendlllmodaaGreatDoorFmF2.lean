/- One of the texts of a proof by an abstract machine over the model. -/
import Derived.Test.YtmhkendlllmodaaGreatDoorFmF
import Derived.Test.YtmhkendlllmodaaGreatDoorFmE2
set_option linter.unusedSimpArgs false
set_option linter.unusedVariables false
namespace Go.FM
open Go

/-! ### maps: what a key finds -/
def mpT (P : Program) (t : TypeId) : Option (TypeId × TypeId) := match P.underlying t with
  | some (.map k e) => some (k, e)
  | _ => none
def zeroV (P : Program) (t : TypeId) : Option FV := match P.info? t with
  | some i => i.zero.map cv
  | none => none
def keyOk (P : Program) (t : TypeId) (x : FV) : Bool := match kdT P t with
  | some _ => true
  | none => match stT P t, x with
    | some ks, .agg xs => decide (xs.length = ks.length)
    | _, _ => false
def findA (P : Program) (t : TypeId) (x : FV) : List (FV × FV × Nat) → Nat → Option (Option (Nat × FV))
  | [], _ => some none
  | e :: es, i => match eqK P t x e.1 with
    | some true => some (some (i, e.2.1))
    | some false => findA P t x es (i + 1)
    | none => none
def fLook (P : Program) (H : Heap) (t : TypeId) (x i : FV) (ok : Bool) : Option FV := match mpT P t with
  | none => none
  | some (k, e) => if keyOk P k i then (match x with
    | .mp l => match H l with
      | some (.map es _) => match findA P k i es 0 with
        | some (some (_, v)) => some (if ok then .tup [v, .bool true] else v)
        | some none => (zeroV P e).map fun v => if ok then .tup [v, .bool false] else v
        | none => none
      | _ => none
    | .nilm => (zeroV P e).map fun v => if ok then .tup [v, .bool false] else v
    | _ => none) else none

section
variable {P : Program} {X : Ctx} {c : Cfg} {w w' : World} {F F' : Nat → Prop} {U : Loc → Prop} {m m' : Loc → Nat × Nat} {s s' : FS} {a a' : Act} {H : Heap}

theorem mpT_some {t k e : TypeId} (h : mpT P t = some (k, e)) : P.underlying t = some (.map k e) := by
  unfold mpT at h; split at h
  · rename_i h1; simp only [Option.some.injEq, Prod.mk.injEq] at h; obtain ⟨rfl, rfl⟩ := h; exact h1
  · cases h
theorem zeroV_ok {t : TypeId} {x : FV} (h : zeroV P t = some x) (w' : World) : ∃ z, (zeroValue t).run P w' = .ok z w' ∧ RF w F U m x z := by
  unfold zeroV at h
  split at h
  · rename_i i hi
    rw [Option.map_eq_some_iff] at h
    obtain ⟨z, hz, rfl⟩ := h
    exact ⟨z, by simp [zeroValue, typeInfo, hi, hz], RF.cv z⟩
  · cases h
theorem checkKey_plain {t : TypeId} {k : Kd} (h : kdT P t = some k) (b : Bool) (n : Nat) (v : Value) (w' : World) : (Instr.checkKey b (n + 1) t v).run P w' = .ok () w' := by
  unfold kdT at h
  split at h <;> first | (cases h; done) | (rename_i hu; simp only [Instr.checkKey, Sem.run_bind, run_underlying hu, Result.andThen_ok]; rfl)
theorem flatF_all {fs : List Field} {ks : List Kd} {i : Nat} (h : flatF P fs i = some ks) : ks.length = fs.length ∧ ∀ (j : Nat) (f : Field), fs[j]? = some f → f.offset = i + j ∧ ∃ k, kdT P f.type = some k := by
  induction fs generalizing i ks with
  | nil => simp [flatF] at h; subst h; simp
  | cons f fs ih =>
    unfold flatF at h
    split at h
    case isFalse => cases h
    rename_i ho
    split at h
    case isTrue => cases h
    split at h
    case h_2 => cases h
    rename_i k hk
    rw [Option.map_eq_some_iff] at h
    obtain ⟨ks', hks, rfl⟩ := h
    obtain ⟨h1, h2⟩ := ih hks
    refine ⟨by simp [h1], fun j g hg => ?_⟩
    cases j with
    | zero => simp at hg; subst hg; exact ⟨by simpa using ho, k, hk⟩
    | succ j =>
      have := h2 j g (by simpa using hg)
      exact ⟨by rw [this.1]; omega, this.2⟩
theorem checkKey_struct (fs : List Field) (cs : Array Value) (b : Bool) (n : Nat) (hf : ∀ f ∈ fs, ∃ k v, kdT P f.type = some k ∧ cs[f.offset]? = some v) (w' : World) :
    ((forIn fs PUnit.unit fun f _ => do
      if f.name ≠ "_" then Instr.checkKey b (n + 1) f.type (← part f.type cs f.offset)
      pure (ForInStep.yield PUnit.unit) : Sem PUnit).run P w') = .ok PUnit.unit w' := by
  induction fs with
  | nil => rfl
  | cons f fs ih =>
    obtain ⟨k, v, h1, h2⟩ := hf f (by simp)
    rw [List.forIn_cons]
    have ih := ih fun g hg => hf g (by simp [hg])
    by_cases hn : f.name = "_"
    · simp only [hn, ne_eq, not_true_eq_false, if_false, Sem.run_bind, Sem.run_pure, Result.andThen_ok]
      exact ih
    · simp only [ne_eq, hn, not_false_eq_true, if_true, Sem.run_bind, part_run h1 h2, Result.andThen_ok, checkKey_plain h1, Sem.run_pure]
      exact ih
theorem checkKey_run {t : TypeId} {x : FV} {v : Value} (h : keyOk P t x = true) (hx : RF w F U m x v) (b : Bool) (n : Nat) (w' : World) : (Instr.checkKey b (n + 1 + 1) t v).run P w' = .ok () w' := by
  unfold keyOk at h
  split at h
  · rename_i k hk; exact checkKey_plain hk b _ v w'
  · split at h
    case h_2 => cases h
    rename_i ks xs hst
    have h := of_decide_eq_true h
    unfold stT at hst
    split at hst
    case h_2 => cases hst
    rename_i fs hu
    split at hst
    case isTrue => cases hst
    obtain ⟨h1, h2⟩ := flatF_all hst
    cases hx with
    | agg _ vs hvs =>
    have hl := hvs.length
    have := checkKey_struct fs.toList vs.toArray b n (fun f hf => by
      obtain ⟨j, hj⟩ := List.getElem?_of_mem hf
      obtain ⟨g1, k, g2⟩ := h2 j f hj
      have hjl : j < vs.length := by
        have := (List.getElem?_eq_some_iff.1 hj).1
        omega
      exact ⟨k, vs[j], g2, by rw [g1]; simp [hjl]⟩) w'
    rw [Instr.checkKey]
    simp only [Sem.run_bind, run_underlying hu, Result.andThen_ok]
    rw [← Array.forIn_toList]
    simp only [Sem.run_bind] at this ⊢
    first
      | exact this
      | (rw [this]; rfl)

/-- what a look-up finds -/
def Fd (w : World) (F : Nat → Prop) (U : Loc → Prop) (m : Loc → Nat × Nat) : Option (Nat × FV) → Option (Nat × Value) → Prop
  | none, none => True
  | some (i, y), some (j, u) => i = j ∧ RF w F U m y u
  | _, _ => False
theorem findAsking_run {t : TypeId} {x : FV} {v : Value} (hx : RF w F U m x v) : ∀ (es : List (FV × FV × Nat)) (xs : List MapEntry) (i : Nat) (r : Option (Nat × FV)), findA P t x es i = some r → REs w F U m es xs → ∀ w', ∃ r', (Instr.findAsking t v xs i).run P w' = .ok r' w' ∧ Fd w F U m r r'
  | [], xs, i, r, h, he, w' => by
    cases he
    obtain rfl : none = r := by simpa [findA] using h
    exact ⟨none, by simp [Instr.findAsking], trivial⟩
  | e :: es, xs, i, r, h, he, w' => by
    cases he with
    | cons _ y _ ys h1 h2 =>
    simp only [findA] at h
    split at h
    · rename_i hq
      obtain rfl := Option.some.inj h
      exact ⟨some (i, y.val), by simp [Instr.findAsking, eqK_equal hq hx h1.key], rfl, h1.val⟩
    · rename_i hq
      obtain ⟨r', g1, g2⟩ := findAsking_run hx es ys (i + 1) r h h2 w'
      exact ⟨r', by simp [Instr.findAsking, eqK_equal hq hx h1.key, g1], g2⟩
    · cases h
theorem sameNow_eq {t : TypeId} {d : TypeDesc} {x y : FV} {vx vy : Value} {b b' : Bool} (hd : P.underlying t = some d) (h : eqK P t x y = some b) (hx : RF w F U m x vx) (hy : RF w F U m y vy) (h' : Instr.sameNow d vx vy = some b') : b' = b := by
  have h1 := eqK_equal h hx hy w
  clear hx hy h
  rw [Op.equal, show Op.maxDepth = 9999 + 1 from rfl] at h1
  generalize 9999 = d9 at h1
  unfold Instr.sameNow at h'
  split at h'
  · split at h'
    · rename_i hk
      subst hk
      obtain rfl := Option.some.inj h'
      rw [run_equalIn_int w d9 t _ _ _ _ hd] at h1
      simpa using h1
    · cases h'
  · obtain rfl := Option.some.inj h'
    rw [run_equalIn_string w d9 t _ _ hd] at h1
    simpa [beq_toListBytes] using h1
  · obtain rfl := Option.some.inj h'
    rw [run_equalIn_bool' w d9 t _ _ hd] at h1
    simpa using h1
  · cases h'
theorem findNow_run {t : TypeId} {d : TypeDesc} (hd : P.underlying t = some d) {x : FV} {v : Value} (hx : RF w F U m x v) : ∀ (es : List (FV × FV × Nat)) (xs : List MapEntry) (i : Nat) (r : Option (Nat × FV)) (r' : Option (Nat × Value)), findA P t x es i = some r → REs w F U m es xs →
    Instr.findNow d v xs i = some r' → Fd w F U m r r'
  | [], xs, i, r, r', h, he, hf => by
    cases he
    obtain rfl : none = r := by simpa [findA] using h
    obtain rfl : none = r' := by simpa [Instr.findNow] using hf
    trivial
  | e :: es, xs, i, r, r', h, he, hf => by
    cases he with
    | cons _ y _ ys h1 h2 =>
    simp only [findA] at h
    simp only [Instr.findNow] at hf
    split at hf
    · rename_i hs
      obtain rfl := Option.some.inj hf
      split at h
      · obtain rfl := Option.some.inj h
        exact ⟨rfl, h1.val⟩
      · rename_i hq
        have := sameNow_eq hd hq hx h1.key hs
        cases this
      · cases h
    · rename_i hs
      split at h
      · rename_i hq
        have := sameNow_eq hd hq hx h1.key hs
        cases this
      · exact findNow_run hd hx es ys (i + 1) r r' h h2 hf
      · cases h
    · cases hf
theorem keyOk_desc {t : TypeId} {x : FV} (h : keyOk P t x = true) : ∃ d, P.underlying t = some d := by
  unfold keyOk at h
  cases hu : P.underlying t with
  | some d => exact ⟨d, rfl⟩
  | none => simp [kdT, stT, hu] at h
theorem findKey_run {t : TypeId} {x : FV} {v : Value} {es : List (FV × FV × Nat)} {xs : List MapEntry} {r : Option (Nat × FV)} (hk : keyOk P t x = true) (hx : RF w F U m x v) (h : findA P t x es 0 = some r) (he : REs w F U m es xs) (w' : World) :
    ∃ r', (Instr.findKey t v xs).run P w' = .ok r' w' ∧ Fd w F U m r r' := by
  obtain ⟨d, hd⟩ := keyOk_desc hk
  unfold Instr.findKey
  simp only [Sem.run_bind, run_underlying hd, Result.andThen_ok]
  split
  · rename_i r' hr
    exact ⟨r', rfl, findNow_run hd hx es xs 0 r r' h he hr⟩
  · exact findAsking_run hx es xs 0 r h he w'
theorem fLook_ok (h : HeapR w F m H) {t : TypeId} {x i y : FV} {v vi : Value} {ok : Bool} (hs : fLook P H t x i ok = some y) (hx : RF w F (fun l => H l ≠ none) m x v) (hi : RF w F (fun l => H l ≠ none) m i vi) :
    ∃ u, (Instr.lookup t v vi ok).run P w = .ok u w ∧ RF w F (fun l => H l ≠ none) m y u := by
  unfold fLook at hs
  split at hs
  · cases hs
  rename_i k e ht
  have ht := mpT_some ht
  split at hs
  case isFalse => cases hs
  rename_i hk
  have done : (zeroV P e).map (fun v => if ok then .tup [v, .bool false] else v) = some y → ∃ zv, (zeroValue e).run P w = .ok zv w ∧ RF w F (fun l => H l ≠ none) m y (if ok then .tuple #[zv, .bool false] else zv) := fun hz => by
    rw [Option.map_eq_some_iff] at hz
    obtain ⟨z, hz, rfl⟩ := hz
    obtain ⟨zv, g1, g2⟩ := zeroV_ok (w := w) (F := F) (U := fun l => H l ≠ none) (m := m) hz w
    cases ok
    · exact ⟨zv, g1, by simpa using g2⟩
    · exact ⟨zv, g1, by simpa using RF.tup _ _ (.cons _ _ _ _ g2 (.cons _ _ _ _ (.bool false) .nil))⟩
  split at hs
  · rename_i l
    cases hx
    split at hs
    case h_2 => cases hs
    rename_i es clk hl
    obtain ⟨h0, ar, g1, g2⟩ := h.obj _ _ hl
    have hck := fun b => checkKey_run (P := P) hk hi b 9998 w
    have hget : (getObj (m l).1).run P w = .ok (.map ar clk) w := by simp [getObj, Sem.run, g1]
    split at hs
    · rename_i j u hf
      obtain ⟨r', k1, k2⟩ := findKey_run hk hi hf g2 w
      cases r' with
      | none => exact k2.elim
      | some q =>
        obtain ⟨j', u'⟩ := q
        obtain ⟨_, k2⟩ := k2
        obtain rfl := Option.some.inj hs
        cases ok
        · exact ⟨u', by simp [Instr.lookup, run_underlying ht, hget, hck, k1], by simpa using k2⟩
        · exact ⟨.tuple #[u', .bool true], by simp [Instr.lookup, run_underlying ht, hget, hck, k1], by simpa using RF.tup _ _ (.cons _ _ _ _ k2 (.cons _ _ _ _ (.bool true) .nil))⟩
    · rename_i hf
      obtain ⟨r', k1, k2⟩ := findKey_run hk hi hf g2 w
      cases r' with
      | some q => exact k2.elim
      | none =>
        obtain ⟨zv, m1, m2⟩ := done hs
        exact ⟨_, by simp [Instr.lookup, run_underlying ht, hget, hck, k1, m1], m2⟩
    · cases hs
  · cases hx
    obtain ⟨zv, m1, m2⟩ := done hs
    have hck := fun b => checkKey_run (P := P) hk hi b 9998 w
    obtain ⟨r', k1, k2⟩ := findKey_run (es := []) (xs := []) (r := none) hk hi rfl .nil w
    cases r' with
    | some q => exact k2.elim
    | none =>
      exact ⟨_, by simp [Instr.lookup, run_underlying ht, hck, k1, m1], m2⟩
  · cases hs

/-! ### parts of values; bits; nil checks -/
def arE (P : Program) (t : TypeId) : Option (Nat × TypeId) := match P.underlying t with
  | some (.array n e) => some (n, e)
  | _ => none
def fPart (P : Program) (t : TypeId) (cs : List FV) (off : Nat) : Option FV := match ldT P t with
  | some none => cs[off]?
  | some (some n) => if off + n ≤ cs.length then some (.agg ((cs.drop off).take n)) else none
  | none => none
theorem fPart_ok {t : TypeId} {cs : List FV} {vs : List Value} {off : Nat} {y : FV} (hs : fPart P t cs off = some y) (h : RFs w F U m cs vs) (w' : World) : ∃ u, (part t vs.toArray off).run P w' = .ok u w' ∧ RF w F U m y u := by
  unfold fPart at hs
  split at hs
  · rename_i ht
    obtain ⟨hagg, _⟩ := run_ldT ht w'
    obtain ⟨u, g1, g2⟩ := h.get off hs
    exact ⟨u, by simp [part, hagg, g1], g2⟩
  · rename_i n ht
    obtain ⟨hagg, hsz⟩ := run_ldT ht w'
    have hsz := run_szT (hsz n rfl) w'
    split at hs
    · obtain rfl := Option.some.inj hs
      refine ⟨.agg (vs.toArray.extract off (off + n)), by simp [part, hagg, hsz], ?_⟩
      have e : (vs.toArray.extract off (off + n)) = ((vs.drop off).take n).toArray := by
        apply Array.ext'
        simp [List.take_drop]
      rw [e]
      exact .agg _ _ ((h.drop off).take n)
    · cases hs
  · cases hs
def fIdx (P : Program) (t : TypeId) (x i : FV) : Option FV := match i with
  | .int _ n => match x with
    | .agg cs => match arE P t with
      | some (len, e) => match szT P e with
        | some sz => if decide (0 ≤ n) && decide (n < (len : Int)) then fPart P e cs (n.toNat * sz) else none
        | none => none
      | none => none
    | .str s => if strT P t && decide (0 ≤ n) then (s[n.toNat]?).map fun b => .int .u8 b.toNat else none
    | _ => none
  | _ => none
theorem fIdx_ok {t : TypeId} {x i y : FV} {v vi : Value} (hs : fIdx P t x i = some y) (hx : RF w F U m x v) (hi : RF w F U m i vi) (w' : World) : ∃ u, (Instr.index t v vi).run P w' = .ok u w' ∧ RF w F U m y u := by
  unfold fIdx at hs
  split at hs
  case h_2 => cases hs
  rename_i k n
  cases hi
  split at hs
  · rename_i cs
    split at hs
    case h_2 => cases hs
    rename_i len e hte
    split at hs
    case h_2 => cases hs
    rename_i sz hsz
    split at hs
    case isFalse => cases hs
    rename_i hc
    rw [Bool.and_eq_true, decide_eq_true_eq, decide_eq_true_eq] at hc
    cases hx with
    | agg _ vs hvs =>
    obtain ⟨u, g1, g2⟩ := fPart_ok hs hvs w'
    have hu : P.underlying t = some (.array len e) := by
      unfold arE at hte
      split at hte
      · rename_i h1; simp only [Option.some.injEq, Prod.mk.injEq] at hte; obtain ⟨rfl, rfl⟩ := hte; exact h1
      · cases hte
    exact ⟨u, by simp [Instr.index, asIntOf, run_underlying hu, hc.1, hc.2, run_szT hsz, g1], g2⟩
  · split at hs
    case isFalse => cases hs
    rename_i hc
    rw [Bool.and_eq_true, decide_eq_true_eq] at hc
    rw [Option.map_eq_some_iff] at hs
    obtain ⟨b, hb, rfl⟩ := hs
    cases hx
    exact ⟨_, by simp [Instr.index, asIntOf, run_underlying (strT_some hc.1), hc.2, hb], .int _ _⟩
  · cases hs
def fFieldV (P : Program) (t : TypeId) (x : FV) (f : Nat) : Option FV := match P.underlying t, x with
  | some (.struct fs), .agg cs => match fs[f]? with
    | some g => fPart P g.type cs g.offset
    | none => none
  | _, _ => none
theorem fFieldV_ok {t : TypeId} {x y : FV} {f : Nat} {v : Value} (hs : fFieldV P t x f = some y) (hx : RF w F U m x v) (w' : World) : ∃ u, (Instr.field t v f).run P w' = .ok u w' ∧ RF w F U m y u := by
  unfold fFieldV at hs
  split at hs
  case h_2 => cases hs
  rename_i fs cs hu
  split at hs
  case h_2 => cases hs
  rename_i g hg
  cases hx with
  | agg _ vs hvs =>
  obtain ⟨u, g1, g2⟩ := fPart_ok hs hvs w'
  exact ⟨u, by simp [Instr.field, run_underlying hu, hg, asAgg, g1], g2⟩
def fBits (op : BinOp) (x y : FV) : Option FV := match x, y with
  | .int k a, .int k' b => match op with
    | .shl => if b < 0 then none else some (.int k (k.wrap (a * 2 ^ (min b.toNat k.bits))))
    | .shr => if b < 0 then none else some (.int k (a.fdiv (2 ^ (min b.toNat k.bits))))
    | .and => if k = k' then some (.int k (k.wrap ((BitVec.ofInt k.bits a &&& BitVec.ofInt k.bits b).toNat))) else none
    | .or => if k = k' then some (.int k (k.wrap ((BitVec.ofInt k.bits a ||| BitVec.ofInt k.bits b).toNat))) else none
    | .xor => if k = k' then some (.int k (k.wrap ((BitVec.ofInt k.bits a ^^^ BitVec.ofInt k.bits b).toNat))) else none
    | .andNot => if k = k' then some (.int k (k.wrap ((BitVec.ofInt k.bits a &&& ~~~BitVec.ofInt k.bits b).toNat))) else none
    | _ => none
  | _, _ => none
theorem fBits_ok {op : BinOp} {t : TypeId} {x y : Operand} {u v r : FV} {vx vy : Value} (h : fBits op u v = some r) (hu : RF w F U m u vx) (hv : RF w F U m v vy) :
    ∃ vr, ((do eqGuard op t x y vx vy; binOp op t vx vy : Sem Value).run P w = .ok vr w) ∧ RF w F U m r vr := by
  unfold fBits at h
  split at h
  case h_2 => cases h
  rename_i k a' k' b'
  cases hu; cases hv
  split at h
  · split at h
    · cases h
    · rename_i hb
      obtain rfl := Option.some.inj h
      exact ⟨_, by simp [eqGuard, binOp, Op.shift, hb], .int _ _⟩
  · split at h
    · cases h
    · rename_i hb
      obtain rfl := Option.some.inj h
      exact ⟨_, by simp [eqGuard, binOp, Op.shift, hb], .int _ _⟩
  all_goals first
    | (cases h; done)
    | (split at h
       · rename_i hk
         subst hk
         obtain rfl := Option.some.inj h
         exact ⟨_, by simp only [eqGuard, binOp]; simp [Op.intBits], .int _ _⟩
       · cases h)
def fUn2 (op : UnOp) (x : FV) : Option FV := match op, x with
  | .xor, .int k n => some (.int k (k.wrap ((BitVec.ofInt k.bits (if k.signed then -1 else k.max) ^^^ BitVec.ofInt k.bits n).toNat)))
  | _, _ => none
theorem fUn2_ok {op : UnOp} {x y : FV} {v : Value} (h : fUn2 op x = some y) (hx : RF w F U m x v) : ∃ u, (Op.unary op v).run P w = .ok u w ∧ RF w F U m y u := by
  unfold fUn2 at h
  split at h
  · obtain rfl := Option.some.inj h
    cases hx
    exact ⟨_, by simp only [Op.unary, Op.intBits]; rfl, .int _ _⟩
  · cases h
def fNil (x : FV) : Option FV := match x with
  | .ptr .. => some x
  | .ref _ => some x
  | .clo .. => some x
  | _ => none
def fMax : FV → List FV → Option FV
  | x, [] => some x
  | .int k n, .int k' m :: r => if k = k' then fMax (.int k (if m > n then m else n)) r else none
  | _, _ => none
def fMin : FV → List FV → Option FV
  | x, [] => some x
  | .int k n, .int k' m :: r => if k = k' then fMin (.int k (if m < n then m else n)) r else none
  | _, _ => none
theorem fMax_ok : ∀ (xs : List FV) (vs : List Value) (x y : FV) (v : Value), fMax x xs = some y → RF w F U m x v → RFs w F U m xs vs → ∀ w', ∃ u, (vs.foldlM Builtin.max2 v).run P w' = .ok u w' ∧ RF w F U m y u
  | [], _, x, y, v, h, hx, .nil, w' => by
    obtain rfl : x = y := by cases x <;> simpa [fMax] using h
    exact ⟨v, by simp, hx⟩
  | b :: xs, _, x, y, v, h, hx, .cons _ u _ us hu hs, w' => by
    unfold fMax at h
    split at h
    · rename_i e; cases e
    · rename_i k n k' m' r e
      simp only [List.cons.injEq] at e
      obtain ⟨rfl, rfl⟩ := e
      split at h
      · rename_i hk; subst hk
        cases hx; cases hu
        obtain ⟨u', g1, g2⟩ := fMax_ok xs us _ y _ h (.int k _) hs w'
        exact ⟨u', by rw [List.foldlM_cons]; simp only [Builtin.max2, pure_bind]; exact g1, g2⟩
      · cases h
    · cases h
theorem fMin_ok : ∀ (xs : List FV) (vs : List Value) (x y : FV) (v : Value), fMin x xs = some y → RF w F U m x v → RFs w F U m xs vs → ∀ w', ∃ u, (vs.foldlM Builtin.min2 v).run P w' = .ok u w' ∧ RF w F U m y u
  | [], _, x, y, v, h, hx, .nil, w' => by
    obtain rfl : x = y := by cases x <;> simpa [fMin] using h
    exact ⟨v, by simp, hx⟩
  | b :: xs, _, x, y, v, h, hx, .cons _ u _ us hu hs, w' => by
    unfold fMin at h
    split at h
    · rename_i e; cases e
    · rename_i k n k' m' r e
      simp only [List.cons.injEq] at e
      obtain ⟨rfl, rfl⟩ := e
      split at h
      · rename_i hk; subst hk
        cases hx; cases hu
        obtain ⟨u', g1, g2⟩ := fMin_ok xs us _ y _ h (.int k _) hs w'
        exact ⟨u', by rw [List.foldlM_cons]; simp only [Builtin.min2, pure_bind]; exact g1, g2⟩
      · cases h
    · cases h

/-- the entry at which an iterator stands -/
def fEntry (H : Heap) (it : FV) : Option FV := match it with
  | .ptr l 0 0 0 => match H l with
    | some (.iter (.mp k) _ seen last) => match H k with
      | some (.map es clk) => if clk = last then (match seen.getLast? with
        | some st => match es.find? fun e => e.2.2 == st with
          | some e => some (.tup [e.1, e.2.1])
          | none => none
        | none => none) else none
      | _ => none
    | _ => none
  | _ => none
theorem REs.find {es : List (FV × FV × Nat)} {xs : List MapEntry} (h : REs w F U m es xs) (st : Nat) {e : FV × FV × Nat} (he : es.find? (fun e => e.2.2 == st) = some e) : ∃ x, xs.find? (fun e => e.born == st) = some x ∧ RE w F U m e x := by
  induction h with
  | nil => simp at he
  | cons e' x es xs h hs ih =>
    rw [List.find?_cons] at he
    rw [List.find?_cons, h.born]
    cases hb : e'.2.2 == st
    · rw [hb] at he
      exact ih he
    · rw [hb] at he
      obtain rfl := Option.some.inj he
      exact ⟨x, rfl, h⟩
theorem fEntry_ok (h : HeapR w F m H) {it y : FV} {v : Value} (hs : fEntry H it = some y) (hx : RF w F (fun l => H l ≠ none) m it v) : ∃ u, (Instr.entry v).run P w = .ok u w ∧ RF w F (fun l => H l ≠ none) m y u := by
  unfold fEntry at hs
  split at hs
  case h_2 => cases hs
  rename_i l
  cases hx
  split at hs
  case h_2 => cases hs
  rename_i k since seen last hl
  obtain ⟨h0, q, g1, g2⟩ := h.obj _ _ hl
  cases g1 with
  | mp _ huk =>
  split at hs
  case h_2 => cases hs
  rename_i es clk hk
  obtain ⟨hk0, ar, k1, k2⟩ := h.obj _ _ hk
  split at hs
  case isFalse => cases hs
  rename_i hc
  subst hc
  split at hs
  case h_2 => cases hs
  rename_i st hst
  split at hs
  case h_2 => cases hs
  rename_i e he
  obtain rfl := Option.some.inj hs
  obtain ⟨x, hx1, hx2⟩ := k2.find st he
  have hb : seen.toArray.back? = some st := by simpa [List.getLast?_eq_getElem?] using hst
  have hf : ar.find? (fun e => e.born == st) = some x := by rw [← hx1, ← Array.find?_toList]
  have r1 : (getObj (m l).1).run P w = .ok (.mapIter (some (m k).1) since seen.toArray clk) w := by simp [getObj, Sem.run, g2]
  have r2 : (getObj (m k).1).run P w = .ok (.map ar clk) w := by simp [getObj, Sem.run, k1]
  refine ⟨.tuple #[x.key, x.val], ?_, by simpa using RF.tup _ _ (.cons _ _ _ _ hx2.key (.cons _ _ _ _ hx2.val .nil))⟩
  simp only [Instr.entry, Nat.zero_mul, Nat.add_zero, Sem.run_bind, r1, Result.andThen_ok, hb, r2, bne_self_eq_false, Bool.false_eq_true, if_false, hf, Sem.run_pure]
/-- s[:0:0] -/
def fSlice3 (P : Program) (t : TypeId) (x : FV) (lo hi : Option FV) (mx : FV) : Option FV := match slT P t, lo, hi, mx with
  | some _, none, some (.int _ 0), .int _ 0 => match x with
    | .nils => some .nils
    | .emp => some .emp
    | .list .. => some .emp
    | .sl .. => some .emp
    | _ => none
  | _, _, _, _ => none
theorem fSlice3_ok {t : TypeId} {x y mx : FV} {lo hi : Option FV} {v vm : Value} {vlo vhi : Option Value} (h : fSlice3 P t x lo hi mx = some y) (hx : RF w F U m x v) (hm : RF w F U m mx vm)
    (hlon : lo = none → vlo = none) (hhi : ∀ f, hi = some f → ∃ u, vhi = some u ∧ RF w F U m f u) : ∃ u, (Instr.sliceAt t v vlo vhi (some vm)).run P w = .ok u w ∧ RF w F U m y u := by
  unfold fSlice3 at h
  split at h
  case h_2 => cases h
  rename_i ex k1 k2 ht
  obtain ⟨e, sz⟩ := ex
  obtain ⟨hu, hz⟩ := slT_some ht
  obtain rfl := hlon rfl
  obtain ⟨u, rfl, hu'⟩ := hhi _ rfl
  cases hu'
  cases hm
  have key : ∀ (A : Option Addr) (n c : Nat), (Instr.sliceAt t (.slice A n c) none (some (.int k1 0)) (some (.int k2 0))).run P w = .ok (.slice A 0 0) w := fun A n c => by
    simp [Instr.sliceAt, Instr.slice, run_underlying hu, Instr.sliceBounds, Instr.sliceBound, asIntOf, run_szT hz]
  split at h
  · obtain rfl := Option.some.inj h
    cases hx
    exact ⟨_, key _ _ _, .nils⟩
  · obtain rfl := Option.some.inj h
    cases hx
    exact ⟨_, key _ _ _, .emp _⟩
  · obtain rfl := Option.some.inj h
    cases hx
    exact ⟨_, key _ _ _, .emp _⟩
  · obtain rfl := Option.some.inj h
    cases hx
    · exact ⟨_, key _ _ _, .emp _⟩
    · exact ⟨_, key _ _ _, .emp _⟩
  · cases h

/-- an array's literal -/
def fBuildA (P : Program) (ρ : Operand → FV) (t : TypeId) (parts : Array (Nat × Operand)) : Option FV := match zeroC P t, arE P t with
  | some z, some (_, e) => match szT P e with
    | some sz => (fillA (fun i => some (i * sz, sz)) z ((parts.toList.map (·.1)).zip ((parts.toList.map (·.2)).map ρ))).map .agg
    | none => none
  | _, _ => none

/-! ### all operations that write nothing -/
def pv2 (P : Program) (H : Heap) (ρ : Operand → FV) (o : Oper) : Option FV := match o.op with
  | .lookup t x i ok => fLook P H t (ρ x) (ρ i) ok
  | .index t x i => fIdx P t (ρ x) (ρ i)
  | .field t x f => fFieldV P t (ρ x) f
  | .nilCheck x => fNil (ρ x)
  | .binOp op t x y _ => match fBits op (ρ x) (ρ y) with
    | some r => some r
    | none => fCmp P op t (ρ x) (ρ y)
  | .unOp op _ x => fUn2 op (ρ x)
  | .call { callee := .builtin .max, args := ⟨x :: xs⟩, argTypes := _ } => fMax (ρ x) (xs.map ρ)
  | .call { callee := .builtin .min, args := ⟨x :: xs⟩, argTypes := _ } => fMin (ρ x) (xs.map ρ)
  | .entry it => fEntry H (ρ it)
  | .build t parts => fBuildA P ρ t parts
  | .slice t x lo hi (some mx) => fSlice3 P t (ρ x) (lo.map ρ) (hi.map ρ) (ρ mx)
  | _ => none
theorem pv2_ok (h : RelX X F m s a w) {o : Oper} {y : FV} (hs : pv2 P s.H (rv s) o = some y) : ∃ v, (execOp a.eval o).run P w = .ok (.value v) w ∧ RF w F (fun l => s.H l ≠ none) m y v := by
  have hall : ∀ l : List Operand, RFs w F (fun l => s.H l ≠ none) m (l.map (rv s)) (l.map a.eval) := fun l => by
    induction l with
    | nil => exact .nil
    | cons x l ih => exact .cons _ _ _ _ (rv_ok h x) ih
  unfold pv2 at hs
  split at hs
  · rename_i t x i ok ho
    obtain ⟨v, h1, h2⟩ := fLook_ok h.heap hs (rv_ok h x) (rv_ok h i)
    exact ⟨v, by simp [execOp, ho, h1], h2⟩
  · rename_i t x i ho
    obtain ⟨v, h1, h2⟩ := fIdx_ok hs (rv_ok h x) (rv_ok h i) w
    exact ⟨v, by simp [execOp, ho, h1], h2⟩
  · rename_i t x f ho
    obtain ⟨v, h1, h2⟩ := fFieldV_ok hs (rv_ok h x) w
    exact ⟨v, by simp [execOp, ho, h1], h2⟩
  · rename_i x ho
    have hx := rv_ok h x
    generalize hv : a.eval x = v at hx
    unfold fNil at hs
    split at hs
    all_goals first
      | (cases hs; done)
      | (rename_i hq
         rw [hq] at hx
         obtain rfl := Option.some.inj hs
         rw [hq]
         exact ⟨v, by cases hx; simp [execOp, ho, hv], hx⟩)
  · rename_i op t x y ty ho
    split at hs
    · rename_i r hr
      obtain rfl := Option.some.inj hs
      obtain ⟨v, h1, h2⟩ := fBits_ok (P := P) (t := t) (x := x) (y := y) hr (rv_ok h x) (rv_ok h y)
      refine ⟨v, ?_, h2⟩
      simp only [execOp, ho, Sem.run_bind] at h1 ⊢
      simp [h1]
    · obtain ⟨v, h1, h2⟩ := fCmp_ok (x := x) (y := y) hs (rv_ok h x) (rv_ok h y)
      refine ⟨v, ?_, h2⟩
      simp only [execOp, ho, Sem.run_bind] at h1 ⊢
      simp [h1]
  · rename_i op t x ho
    obtain ⟨v, h1, h2⟩ := fUn2_ok (P := P) hs (rv_ok h x)
    exact ⟨v, by simp [execOp, ho, h1], h2⟩
  · rename_i x xs ts ho
    obtain ⟨v, h1, h2⟩ := fMax_ok (P := P) (xs.map (rv s)) (xs.map a.eval) _ _ _ hs (rv_ok h x) (hall xs) w
    exact ⟨v, by simp [execOp, ho, resolve, invoke, builtin, Builtin.max_, h1], h2⟩
  · rename_i x xs ts ho
    obtain ⟨v, h1, h2⟩ := fMin_ok (P := P) (xs.map (rv s)) (xs.map a.eval) _ _ _ hs (rv_ok h x) (hall xs) w
    exact ⟨v, by simp [execOp, ho, resolve, invoke, builtin, Builtin.min_, h1], h2⟩
  · rename_i it ho
    obtain ⟨v, h1, h2⟩ := fEntry_ok (P := P) h.heap hs (rv_ok h it)
    exact ⟨v, by simp [execOp, ho, h1], h2⟩
  · rename_i t parts ho
    unfold fBuildA at hs
    split at hs
    case h_2 => cases hs
    rename_i z n e hz hte
    split at hs
    case h_2 => cases hs
    rename_i sz hsz
    rw [Option.map_eq_some_iff] at hs
    obtain ⟨r, hr, rfl⟩ := hs
    have hu : P.underlying t = some (.array n e) := by
      unfold arE at hte
      split at hte
      · rename_i h1; simp only [Option.some.injEq, Prod.mk.injEq] at hte; obtain ⟨rfl, rfl⟩ := hte; exact h1
      · cases hte
    obtain ⟨ie, hie, rfl⟩ : ∃ ie, P.info? e = some ie ∧ ie.size = sz := by
      unfold szT at hsz
      rw [Option.map_eq_some_iff] at hsz
      exact hsz
    unfold zeroC at hz
    split at hz
    case h_2 => cases hz
    rename_i it hit
    split at hz
    case h_2 => cases hz
    rename_i zv hzv
    obtain rfl := Option.some.inj hz
    have hparts : (parts.map fun (i, x) => (i, a.eval x)).toList = (parts.toList.map (·.1)).zip ((parts.toList.map (·.2)).map a.eval) := by
      rw [Array.toList_map]
      generalize parts.toList = l
      induction l with
      | nil => rfl
      | cons x l ih => obtain ⟨i, x⟩ := x; simp only [List.map_cons, List.zip_cons_cons, ih]
    obtain ⟨cells', k1, k2⟩ := fill_ok (w := w) (F := F) (U := fun l => s.H l ≠ none) (m := m) (fun i => some (i * ie.size, ie.size)) (parts.toList.map (·.1)) _ _ _ r zv.cells (by simp) (hall (parts.toList.map (·.2))) (RFs.cv1s _) hr
    have hb : P.built t (parts.map fun (i, x) => (i, a.eval x)).toList = some cells' := by
      unfold Program.built
      simp only [hit, hu, hzv, hie]
      rw [hparts]
      exact k1
    refine ⟨.agg cells', by simp only [execOp, ho, Sem.run_bind]; rw [run_build w t _ cells' hb]; rfl, ?_⟩
    simpa using RF.agg r cells'.toList k2
  · rename_i t x lo hi mx ho
    obtain ⟨v, h1, h2⟩ := fSlice3_ok (P := P) (vlo := lo.map a.eval) (vhi := hi.map a.eval) hs (rv_ok h x) (rv_ok h mx) (fun e => by simpa using e) (fun f hf => by
      rw [Option.map_eq_some_iff] at hf
      obtain ⟨z, rfl, rfl⟩ := hf
      exact ⟨_, rfl, rv_ok h z⟩)
    exact ⟨v, by simp [execOp, ho, h1], h2⟩
  · cases hs
def pv (P : Program) (H : Heap) (ρ : Operand → FV) (o : Oper) : Option FV := match pv1 P H ρ o with
  | some y => some y
  | none => pv2 P H ρ o
theorem pv_ok (h : RelX X F m s a w) {o : Oper} {y : FV} (hs : pv P s.H (rv s) o = some y) : ∃ v, (execOp a.eval o).run P w = .ok (.value v) w ∧ RF w F (fun l => s.H l ≠ none) m y v := by
  unfold pv at hs
  split at hs
  · rename_i z hz
    obtain rfl := Option.some.inj hs
    exact pv1_ok h hz
  · exact pv2_ok h hs
end
end Go.FM
