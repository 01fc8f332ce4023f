/- Parts of the proof. -/
import Derived.Test.YtfhhgjbcenhdeaaGreatDoorF1
import Derived.WalkKit
import Derived.Deep.AppendSrc
import Derived.Deep.Upon
import Derived.MapKept
set_option linter.unusedSimpArgs false
set_option linter.unusedVariables false
namespace Go.FM
open Go
def mpT (P : Program) (t : TypeId) : Option (TypeId × TypeId) := match P.underlying t with
 | some (.map k e) => some (k, e)
 | _ => none
def c1h (P : Program) (t : TypeId) : Option FV := match P.info? t with
 | some i => i.zero.map cv
 | none => none
def a8q (P : Program) (t : TypeId) (x : FV) : Bool := match kdT P t with
 | some _ => true
 | none => match stT P t, x with
   | some ks, .agg xs => decide (xs.length = ks.length)
   | _, _ => false
def a8a (P : Program) (t : TypeId) (x : FV) : List (FV × FV × Nat) -> Nat -> Option (Option (Nat × FV))
 | [], _ => some none
 | e :: es, i => match eqK P t x e.1 with
   | some true => some (some (i, e.2.1))
   | some false => a8a P t x es (i + 1)
   | none => none
def b2s (P : Program) (H : Heap) (t : TypeId) (x i : FV) (ok : Bool) : Option FV := match mpT P t with
 | none => none
 | some (k, e) => if a8q P k i then (match x with
   | .mp l => match H l with
     | some (.map es _) => match a8a P k i es 0 with
       | some (some (_, v)) => some (if ok then .tup [v, .bool true] else v)
       | some none => (c1h P e).map fun v => if ok then .tup [v, .bool false] else v
       | none => none
     | _ => none
   | .nilm => (c1h P e).map fun v => if ok then .tup [v, .bool false] else v
   | _ => none) else none
section
variable {P : Program} {X : Ctx} {c : Cfg} {w w' : World} {F F' : Nat -> Prop} {U : Loc -> Prop} {m m' : Loc -> Nat × Nat} {s s' : Fs} {a a' : Act} {H : Heap}
theorem b9x {t k e : TypeId} (h : mpT P t = some (k, e)) : P.underlying t = some (.map k e) := by
 unfold mpT at h; split at h
 . rename_i h1; simp only [sE_, Prod.mk.injEq] at h; obtain ⟨rfl, rfl⟩ := h; exact h1
 . cases h
theorem d7y {t : TypeId} {x : FV} (h : c1h P t = some x) (w' : World) : ∃ z, (zeroValue t).run P w' = .ok z w' /\ RF w F U m x z := by
 unfold c1h at h
 split at h
 . rename_i i hi
   rw [oM_] at h
   obtain ⟨z, hz, rfl⟩ := h
   exact ⟨z, by simp [zeroValue, typeInfo, hi, hz], RF.cv z⟩
 . cases h
theorem b1d {t : TypeId} {k : Kd} (h : kdT P t = some k) (b : Bool) (n : Nat) (v : Value) (w' : World) : (Instr.checkKey b (n + 1) t v).run P w' = .ok () w' := by
 unfold kdT at h
 split at h <;> first | (cases h; done) | (rename_i hu; simp only [Instr.checkKey, Sem.run_bind, run_underlying hu, Result.andThen_ok]; rfl)
theorem d5u {fs : List Field} {ks : List Kd} {i : Nat} (h : c2t P fs i = some ks) : ks.length = fs.length /\ ∀ (j : Nat) (f : Field), fs[j]? = some f -> f.offset = i + j /\ ∃ k, kdT P f.type = some k := by
 induction fs generalizing i ks with
 | nil => simp [c2t] at h; subst h; simp
 | cons f fs ih =>
   unfold c2t at h
   split at h
   case isFalse => cases h
   rename_i ho
   split at h
   case isTrue => cases h
   split at h
   case h_2 => cases h
   rename_i k hk
   rw [oM_] at h
   obtain ⟨ks', hks, rfl⟩ := h
   obtain ⟨h1, h2⟩ := ih hks
   refine ⟨by simp [h1], fun j g hg => ?_⟩
   cases j with
   | zero => simp at hg; subst hg; exact ⟨by simpa using ho, k, hk⟩
   | succ j =>
     have := h2 j g (by simpa using hg)
     exact ⟨by rw [this.1]; omega, this.2⟩
theorem b6z (fs : List Field) (cs : Array Value) (b : Bool) (n : Nat) (hf : ∀ f ∈ fs, ∃ k v, kdT P f.type = some k /\ cs[f.offset]? = some v) (w' : World) :
 ((forIn fs PUnit.unit fun f _ => do
   if f.name ≠ "_" then Instr.checkKey b (n + 1) f.type (<- part f.type cs f.offset)
   pure (ForInStep.yield PUnit.unit) : Sem PUnit).run P w') = .ok PUnit.unit w' := by
 induction fs with
 | nil => rfl
 | cons f fs ih =>
   obtain ⟨k, v, h1, h2⟩ := hf f (by simp)
   rw [List.forIn_cons]
   have ih := ih fun g hg => hf g (by simp [hg])
   by_cases hn : f.name = "_"
   . simp only [hn, ne_eq, not_true_eq_false, if_false, Sem.run_bind, Sem.run_pure, Result.andThen_ok]
     exact ih
   . simp only [ne_eq, hn, not_false_eq_true, if_true, Sem.run_bind, b9u h1 h2, Result.andThen_ok, b1d h1, Sem.run_pure]
     exact ih
theorem b0b {t : TypeId} {x : FV} {v : Value} (h : a8q P t x = true) (hx : RF w F U m x v) (b : Bool) (n : Nat) (w' : World) : (Instr.checkKey b (n + 1 + 1) t v).run P w' = .ok () w' := by
 unfold a8q at h
 split at h
 . rename_i k hk; exact b1d hk b _ v w'
 . split at h
   case h_2 => cases h
   rename_i ks xs hst
   have h := of_decide_eq_true h
   unfold stT at hst
   split at hst
   case h_2 => cases hst
   rename_i fs hu
   split at hst
   case isTrue => cases hst
   obtain ⟨h1, h2⟩ := d5u hst
   cases hx with
   | agg _ vs hvs =>
   have hl := hvs.length
   have := b6z fs.toList vs.toArray b n (fun f hf => by
    obtain ⟨j, hj⟩ := List.getElem?_of_mem hf
    obtain ⟨g1, k, g2⟩ := h2 j f hj
    have hjl : j < vs.length := by
     have := (List.getElem?_eq_some_iff.1 hj).1
     omega
    exact ⟨k, vs[j], g2, by rw [g1]; simp [hjl]⟩) w'
   rw [Instr.checkKey]
   simp only [Sem.run_bind, run_underlying hu, Result.andThen_ok]
   rw [<- Array.forIn_toList]
   simp only [Sem.run_bind] at this ⊢
   first
    | exact this
    | (rw [this]; rfl)
def Fd (w : World) (F : Nat -> Prop) (U : Loc -> Prop) (m : Loc -> Nat × Nat) : Option (Nat × FV) -> Option (Nat × Value) -> Prop
 | none, none => True
 | some (i, y), some (j, u) => i = j /\ RF w F U m y u
 | _, _ => False
theorem b1b {t : TypeId} {x : FV} {v : Value} (hx : RF w F U m x v) : ∀ (es : List (FV × FV × Nat)) (xs : List MapEntry) (i : Nat) (r : Option (Nat × FV)), a8a P t x es i = some r -> REs w F U m es xs -> ∀ w', ∃ r', (Instr.findAsking t v xs i).run P w' = .ok r' w' /\ Fd w F U m r r'
 | [], xs, i, r, h, he, w' => by
   cases he
   obtain rfl : none = r := by simpa [a8a] using h
   exact ⟨none, by simp [Instr.findAsking], trivial⟩
 | e :: es, xs, i, r, h, he, w' => by
   cases he with
   | cons _ y _ ys h1 h2 =>
   simp only [a8a] at h
   split at h
   . rename_i hq
     obtain rfl := sI_ h
     exact ⟨some (i, y.val), by simp [Instr.findAsking, b6x hq hx h1.key], rfl, h1.val⟩
   . rename_i hq
     obtain ⟨r', g1, g2⟩ := b1b hx es ys (i + 1) r h h2 w'
     exact ⟨r', by simp [Instr.findAsking, b6x hq hx h1.key, g1], g2⟩
   . cases h
theorem b8c {t : TypeId} {d : TypeDesc} {x y : FV} {vx vy : Value} {b b' : Bool} (hd : P.underlying t = some d) (h : eqK P t x y = some b) (hx : RF w F U m x vx) (hy : RF w F U m y vy) (h' : Instr.sameNow d vx vy = some b') : b' = b := by
 have h1 := b6x h hx hy w
 clear hx hy h
 rw [Op.equal, show Op.maxDepth = 9999 + 1 from rfl] at h1
 generalize 9999 = d9 at h1
 unfold Instr.sameNow at h'
 split at h'
 . split at h'
   . rename_i hk
     subst hk
     obtain rfl := sI_ h'
     rw [run_equalIn_int w d9 t _ _ _ _ hd] at h1
     simpa using h1
   . cases h'
 . obtain rfl := sI_ h'
   rw [run_equalIn_string w d9 t _ _ hd] at h1
   simpa [beq_toListBytes] using h1
 . obtain rfl := sI_ h'
   rw [run_equalIn_bool' w d9 t _ _ hd] at h1
   simpa using h1
 . cases h'
theorem b6p {t : TypeId} {d : TypeDesc} (hd : P.underlying t = some d) {x : FV} {v : Value} (hx : RF w F U m x v) : ∀ (es : List (FV × FV × Nat)) (xs : List MapEntry) (i : Nat) (r : Option (Nat × FV)) (r' : Option (Nat × Value)), a8a P t x es i = some r -> REs w F U m es xs ->
 Instr.findNow d v xs i = some r' -> Fd w F U m r r'
 | [], xs, i, r, r', h, he, hf => by
   cases he
   obtain rfl : none = r := by simpa [a8a] using h
   obtain rfl : none = r' := by simpa [Instr.findNow] using hf
   trivial
 | e :: es, xs, i, r, r', h, he, hf => by
   cases he with
   | cons _ y _ ys h1 h2 =>
   simp only [a8a] at h
   simp only [Instr.findNow] at hf
   split at hf
   . rename_i hs
     obtain rfl := sI_ hf
     split at h
     . obtain rfl := sI_ h
       exact ⟨rfl, h1.val⟩
     . rename_i hq
       have := b8c hd hq hx h1.key hs
       cases this
     . cases h
   . rename_i hs
     split at h
     . rename_i hq
       have := b8c hd hq hx h1.key hs
       cases this
     . exact b6p hd hx es ys (i + 1) r r' h h2 hf
     . cases h
   . cases hf
theorem d0b {t : TypeId} {x : FV} (h : a8q P t x = true) : ∃ d, P.underlying t = some d := by
 unfold a8q at h
 cases hu : P.underlying t with
 | some d => exact ⟨d, rfl⟩
 | none => simp [kdT, stT, hu] at h
theorem a7o {t : TypeId} {x : FV} {v : Value} {es : List (FV × FV × Nat)} {xs : List MapEntry} {r : Option (Nat × FV)} (hk : a8q P t x = true) (hx : RF w F U m x v) (h : a8a P t x es 0 = some r) (he : REs w F U m es xs) (w' : World) :
 ∃ r', (Instr.findKey t v xs).run P w' = .ok r' w' /\ Fd w F U m r r' := by
 obtain ⟨d, hd⟩ := d0b hk
 unfold Instr.findKey
 simp only [Sem.run_bind, run_underlying hd, Result.andThen_ok]
 split
 . rename_i r' hr
   exact ⟨r', rfl, b6p hd hx es xs 0 r r' h he hr⟩
 . exact b1b hx es xs 0 r h he w'
theorem e1m (h : HeapR w F m H) {t : TypeId} {x i y : FV} {v vi : Value} {ok : Bool} (hs : b2s P H t x i ok = some y) (hx : RF w F (fun l => H l ≠ none) m x v) (hi : RF w F (fun l => H l ≠ none) m i vi) :
 ∃ u, (Instr.lookup t v vi ok).run P w = .ok u w /\ RF w F (fun l => H l ≠ none) m y u := by
 unfold b2s at hs
 split at hs
 . cases hs
 rename_i k e ht
 have ht := b9x ht
 split at hs
 case isFalse => cases hs
 rename_i hk
 have done : (c1h P e).map (fun v => if ok then .tup [v, .bool false] else v) = some y -> ∃ zv, (zeroValue e).run P w = .ok zv w /\ RF w F (fun l => H l ≠ none) m y (if ok then .tuple #[zv, .bool false] else zv) := fun hz => by
  rw [oM_] at hz
  obtain ⟨z, hz, rfl⟩ := hz
  obtain ⟨zv, g1, g2⟩ := d7y (w := w) (F := F) (U := fun l => H l ≠ none) (m := m) hz w
  cases ok
  . exact ⟨zv, g1, by simpa using g2⟩
  . exact ⟨zv, g1, by simpa using RF.tup _ _ (.cons _ _ _ _ g2 (.cons _ _ _ _ (.bool false) .nil))⟩
 split at hs
 . rename_i l
   cases hx
   split at hs
   case h_2 => cases hs
   rename_i es clk hl
   obtain ⟨h0, ar, g1, g2⟩ := h.obj _ _ hl
   have hck := fun b => b0b (P := P) hk hi b 9998 w
   have hget : (getObj (m l).1).run P w = .ok (.map ar clk) w := by simp [getObj, Sem.run, g1]
   split at hs
   . rename_i j u hf
     obtain ⟨r', k1, k2⟩ := a7o hk hi hf g2 w
     cases r' with
     | none => exact k2.elim
     | some q =>
       obtain ⟨j', u'⟩ := q
       obtain ⟨_, k2⟩ := k2
       obtain rfl := sI_ hs
       cases ok
       . exact ⟨u', by simp [Instr.lookup, run_underlying ht, hget, hck, k1], by simpa using k2⟩
       . exact ⟨.tuple #[u', .bool true], by simp [Instr.lookup, run_underlying ht, hget, hck, k1], by simpa using RF.tup _ _ (.cons _ _ _ _ k2 (.cons _ _ _ _ (.bool true) .nil))⟩
   . rename_i hf
     obtain ⟨r', k1, k2⟩ := a7o hk hi hf g2 w
     cases r' with
     | some q => exact k2.elim
     | none =>
       obtain ⟨zv, m1, m2⟩ := done hs
       exact ⟨_, by simp [Instr.lookup, run_underlying ht, hget, hck, k1, m1], m2⟩
   . cases hs
 . cases hx
   obtain ⟨zv, m1, m2⟩ := done hs
   have hck := fun b => b0b (P := P) hk hi b 9998 w
   obtain ⟨r', k1, k2⟩ := a7o (es := []) (xs := []) (r := none) hk hi rfl .nil w
   cases r' with
   | some q => exact k2.elim
   | none =>
     exact ⟨_, by simp [Instr.lookup, run_underlying ht, hck, k1, m1], m2⟩
 . cases hs
def arE (P : Program) (t : TypeId) : Option (Nat × TypeId) := match P.underlying t with
 | some (.array n e) => some (n, e)
 | _ => none
def c4n (P : Program) (t : TypeId) (cs : List FV) (off : Nat) : Option FV := match ldT P t with
 | some none => cs[off]?
 | some (some n) => if off + n <= cs.length then some (.agg ((cs.drop off).take n)) else none
 | none => none
theorem c8c {t : TypeId} {cs : List FV} {vs : List Value} {off : Nat} {y : FV} (hs : c4n P t cs off = some y) (h : RFs w F U m cs vs) (w' : World) : ∃ u, (part t vs.toArray off).run P w' = .ok u w' /\ RF w F U m y u := by
 unfold c4n at hs
 split at hs
 . rename_i ht
   obtain ⟨hagg, _⟩ := b5q ht w'
   obtain ⟨u, g1, g2⟩ := h.get off hs
   exact ⟨u, by simp [part, hagg, g1], g2⟩
 . rename_i n ht
   obtain ⟨hagg, hsz⟩ := b5q ht w'
   have hsz := a4a (hsz n rfl) w'
   split at hs
   . obtain rfl := sI_ hs
     refine ⟨.agg (vs.toArray.extract off (off + n)), by simp [part, hagg, hsz], ?_⟩
     have e : (vs.toArray.extract off (off + n)) = ((vs.drop off).take n).toArray := by
      apply Array.ext'
      simp [List.take_drop]
     rw [e]
     exact .agg _ _ ((h.drop off).take n)
   . cases hs
 . cases hs
def fIdx (P : Program) (t : TypeId) (x i : FV) : Option FV := match i with
 | .int _ n => match x with
   | .agg cs => match arE P t with
     | some (len, e) => match szT P e with
       | some sz => if decide (0 <= n) && decide (n < (len : Int)) then c4n P e cs (n.toNat * sz) else none
       | none => none
     | none => none
   | .str s => if strT P t && decide (0 <= n) then (s[n.toNat]?).map fun b => .int .u8 b.toNat else none
   | _ => none
 | _ => none
theorem e8h {t : TypeId} {x i y : FV} {v vi : Value} (hs : fIdx P t x i = some y) (hx : RF w F U m x v) (hi : RF w F U m i vi) (w' : World) : ∃ u, (Instr.index t v vi).run P w' = .ok u w' /\ RF w F U m y u := by
 unfold fIdx at hs
 split at hs
 case h_2 => cases hs
 rename_i k n
 cases hi
 split at hs
 . rename_i cs
   split at hs
   case h_2 => cases hs
   rename_i len e hte
   split at hs
   case h_2 => cases hs
   rename_i sz hsz
   split at hs
   case isFalse => cases hs
   rename_i hc
   rw [bA_, dE_, dE_] at hc
   cases hx with
   | agg _ vs hvs =>
   obtain ⟨u, g1, g2⟩ := c8c hs hvs w'
   have hu : P.underlying t = some (.array len e) := by
    unfold arE at hte
    split at hte
    . rename_i h1; simp only [sE_, Prod.mk.injEq] at hte; obtain ⟨rfl, rfl⟩ := hte; exact h1
    . cases hte
   exact ⟨u, by simp [Instr.index, asIntOf, run_underlying hu, hc.1, hc.2, a4a hsz, g1], g2⟩
 . split at hs
   case isFalse => cases hs
   rename_i hc
   rw [bA_, dE_] at hc
   rw [oM_] at hs
   obtain ⟨b, hb, rfl⟩ := hs
   cases hx
   exact ⟨_, by simp [Instr.index, asIntOf, run_underlying (b1y hc.1), hc.2, hb], .int _ _⟩
 . cases hs
def c4o (P : Program) (t : TypeId) (x : FV) (f : Nat) : Option FV := match P.underlying t, x with
 | some (.struct fs), .agg cs => match fs[f]? with
   | some g => c4n P g.type cs g.offset
   | none => none
 | _, _ => none
theorem d0j {t : TypeId} {x y : FV} {f : Nat} {v : Value} (hs : c4o P t x f = some y) (hx : RF w F U m x v) (w' : World) : ∃ u, (Instr.field t v f).run P w' = .ok u w' /\ RF w F U m y u := by
 unfold c4o at hs
 split at hs
 case h_2 => cases hs
 rename_i fs cs hu
 split at hs
 case h_2 => cases hs
 rename_i g hg
 cases hx with
 | agg _ vs hvs =>
 obtain ⟨u, g1, g2⟩ := c8c hs hvs w'
 exact ⟨u, by simp [Instr.field, run_underlying hu, hg, asAgg, g1], g2⟩
def c4r (op : BinOp) (x y : FV) : Option FV := match x, y with
 | .int k a, .int k' b => match op with
   | .shl => if b < 0 then none else some (.int k (k.wrap (a * 2 ^ (min b.toNat k.bits))))
   | .shr => if b < 0 then none else some (.int k (a.fdiv (2 ^ (min b.toNat k.bits))))
   | .and => if k = k' then some (.int k (k.wrap ((BitVec.ofInt k.bits a &&& BitVec.ofInt k.bits b).toNat))) else none
   | .or => if k = k' then some (.int k (k.wrap ((BitVec.ofInt k.bits a ||| BitVec.ofInt k.bits b).toNat))) else none
   | .xor => if k = k' then some (.int k (k.wrap ((BitVec.ofInt k.bits a ^^^ BitVec.ofInt k.bits b).toNat))) else none
   | .andNot => if k = k' then some (.int k (k.wrap ((BitVec.ofInt k.bits a &&& ~~~BitVec.ofInt k.bits b).toNat))) else none
   | _ => none
 | _, _ => none
theorem e1o {op : BinOp} {t : TypeId} {x y : Operand} {u v r : FV} {vx vy : Value} (h : c4r op u v = some r) (hu : RF w F U m u vx) (hv : RF w F U m v vy) :
 ∃ vr, ((do eqGuard op t x y vx vy; binOp op t vx vy : Sem Value).run P w = .ok vr w) /\ RF w F U m r vr := by
 unfold c4r at h
 split at h
 case h_2 => cases h
 rename_i k a' k' b'
 cases hu; cases hv
 split at h
 . split at h
   . cases h
   . rename_i hb
     obtain rfl := sI_ h
     exact ⟨_, by simp [eqGuard, binOp, Op.shift, hb], .int _ _⟩
 . split at h
   . cases h
   . rename_i hb
     obtain rfl := sI_ h
     exact ⟨_, by simp [eqGuard, binOp, Op.shift, hb], .int _ _⟩
 all_goals first
  | (cases h; done)
  | (split at h
     . rename_i hk
       subst hk
       obtain rfl := sI_ h
       exact ⟨_, by simp only [eqGuard, binOp]; simp [Op.intBits], .int _ _⟩
     . cases h)
def fUn2 (op : UnOp) (x : FV) : Option FV := match op, x with
 | .xor, .int k n => some (.int k (k.wrap ((BitVec.ofInt k.bits (if k.signed then -1 else k.max) ^^^ BitVec.ofInt k.bits n).toNat)))
 | _, _ => none
theorem e8f {op : UnOp} {x y : FV} {v : Value} (h : fUn2 op x = some y) (hx : RF w F U m x v) : ∃ u, (Op.unary op v).run P w = .ok u w /\ RF w F U m y u := by
 unfold fUn2 at h
 split at h
 . obtain rfl := sI_ h
   cases hx
   exact ⟨_, by simp only [Op.unary, Op.intBits]; rfl, .int _ _⟩
 . cases h
def fNil (x : FV) : Option FV := match x with
 | .ptr .. => some x
 | .ref _ => some x
 | .clo .. => some x
 | _ => none
def fMax : FV -> List FV -> Option FV
 | x, [] => some x
 | .int k n, .int k' m :: r => if k = k' then fMax (.int k (if m > n then m else n)) r else none
 | _, _ => none
def fMin : FV -> List FV -> Option FV
 | x, [] => some x
 | .int k n, .int k' m :: r => if k = k' then fMin (.int k (if m < n then m else n)) r else none
 | _, _ => none
theorem d6c : ∀ (xs : List FV) (vs : List Value) (x y : FV) (v : Value), fMax x xs = some y -> RF w F U m x v -> RFs w F U m xs vs -> ∀ w', ∃ u, (vs.foldlM Builtin.max2 v).run P w' = .ok u w' /\ RF w F U m y u
 | [], _, x, y, v, h, hx, .nil, w' => by
   obtain rfl : x = y := by cases x <;> simpa [fMax] using h
   exact ⟨v, by simp, hx⟩
 | b :: xs, _, x, y, v, h, hx, .cons _ u _ us hu hs, w' => by
   unfold fMax at h
   split at h
   . rename_i e; cases e
   . rename_i k n k' m' r e
     simp only [List.cons.injEq] at e
     obtain ⟨rfl, rfl⟩ := e
     split at h
     . rename_i hk; subst hk
       cases hx; cases hu
       obtain ⟨u', g1, g2⟩ := d6c xs us _ y _ h (.int k _) hs w'
       exact ⟨u', by rw [List.foldlM_cons]; simp only [Builtin.max2, pure_bind]; exact g1, g2⟩
     . cases h
   . cases h
theorem d6b : ∀ (xs : List FV) (vs : List Value) (x y : FV) (v : Value), fMin x xs = some y -> RF w F U m x v -> RFs w F U m xs vs -> ∀ w', ∃ u, (vs.foldlM Builtin.min2 v).run P w' = .ok u w' /\ RF w F U m y u
 | [], _, x, y, v, h, hx, .nil, w' => by
   obtain rfl : x = y := by cases x <;> simpa [fMin] using h
   exact ⟨v, by simp, hx⟩
 | b :: xs, _, x, y, v, h, hx, .cons _ u _ us hu hs, w' => by
   unfold fMin at h
   split at h
   . rename_i e; cases e
   . rename_i k n k' m' r e
     simp only [List.cons.injEq] at e
     obtain ⟨rfl, rfl⟩ := e
     split at h
     . rename_i hk; subst hk
       cases hx; cases hu
       obtain ⟨u', g1, g2⟩ := d6b xs us _ y _ h (.int k _) hs w'
       exact ⟨u', by rw [List.foldlM_cons]; simp only [Builtin.min2, pure_bind]; exact g1, g2⟩
     . cases h
   . cases h
def b3x (H : Heap) (it : FV) : Option FV := match it with
 | .ptr l 0 0 0 => match H l with
   | some (.iter (.mp k) _ seen last) => match H k with
     | some (.map es clk) => if clk = last then (match seen.getLast? with
       | some st => match es.find? fun e => e.2.2 == st with
         | some e => some (.tup [e.1, e.2.1])
         | none => none
       | none => none) else none
     | _ => none
   | _ => none
 | _ => none
theorem REs.find {es : List (FV × FV × Nat)} {xs : List MapEntry} (h : REs w F U m es xs) (st : Nat) {e : FV × FV × Nat} (he : es.find? (fun e => e.2.2 == st) = some e) : ∃ x, xs.find? (fun e => e.born == st) = some x /\ RE w F U m e x := by
 induction h with
 | nil => simp at he
 | cons e' x es xs h hs ih =>
   rw [List.find?_cons] at he
   rw [List.find?_cons, h.born]
   cases hb : e'.2.2 == st
   . rw [hb] at he
     exact ih he
   . rw [hb] at he
     obtain rfl := sI_ he
     exact ⟨x, rfl, h⟩
theorem d6g (h : HeapR w F m H) {it y : FV} {v : Value} (hs : b3x H it = some y) (hx : RF w F (fun l => H l ≠ none) m it v) : ∃ u, (Instr.entry v).run P w = .ok u w /\ RF w F (fun l => H l ≠ none) m y u := by
 unfold b3x at hs
 split at hs
 case h_2 => cases hs
 rename_i l
 cases hx
 split at hs
 case h_2 => cases hs
 rename_i k since seen last hl
 obtain ⟨h0, q, g1, g2⟩ := h.obj _ _ hl
 cases g1 with
 | mp _ huk =>
 split at hs
 case h_2 => cases hs
 rename_i es clk hk
 obtain ⟨hk0, ar, k1, k2⟩ := h.obj _ _ hk
 split at hs
 case isFalse => cases hs
 rename_i hc
 subst hc
 split at hs
 case h_2 => cases hs
 rename_i st hst
 split at hs
 case h_2 => cases hs
 rename_i e he
 obtain rfl := sI_ hs
 obtain ⟨x, hx1, hx2⟩ := k2.find st he
 have hb : seen.toArray.back? = some st := by simpa [List.getLast?_eq_getElem?] using hst
 have hf : ar.find? (fun e => e.born == st) = some x := by rw [<- hx1, <- Array.find?_toList]
 have r1 : (getObj (m l).1).run P w = .ok (.mapIter (some (m k).1) since seen.toArray clk) w := by simp [getObj, Sem.run, g2]
 have r2 : (getObj (m k).1).run P w = .ok (.map ar clk) w := by simp [getObj, Sem.run, k1]
 refine ⟨.tuple #[x.key, x.val], ?_, by simpa using RF.tup _ _ (.cons _ _ _ _ hx2.key (.cons _ _ _ _ hx2.val .nil))⟩
 simp only [Instr.entry, Nat.zero_mul, Nat.add_zero, Sem.run_bind, r1, Result.andThen_ok, hb, r2, bne_self_eq_false, Bool.false_eq_true, if_false, hf, Sem.run_pure]
def c4m (P : Program) (t : TypeId) (x : FV) (lo hi : Option FV) (mx : FV) : Option FV := match slT P t, lo, hi, mx with
 | some _, none, some (.int _ 0), .int _ 0 => match x with
   | .nils => some .nils
   | .emp => some .emp
   | .list .. => some .emp
   | .sl .. => some .emp
   | _ => none
 | _, _, _, _ => none
theorem d0g {t : TypeId} {x y mx : FV} {lo hi : Option FV} {v vm : Value} {vlo vhi : Option Value} (h : c4m P t x lo hi mx = some y) (hx : RF w F U m x v) (hm : RF w F U m mx vm)
 (hlon : lo = none -> vlo = none) (hhi : ∀ f, hi = some f -> ∃ u, vhi = some u /\ RF w F U m f u) : ∃ u, (Instr.sliceAt t v vlo vhi (some vm)).run P w = .ok u w /\ RF w F U m y u := by
 unfold c4m at h
 split at h
 case h_2 => cases h
 rename_i ex k1 k2 ht
 obtain ⟨e, sz⟩ := ex
 obtain ⟨hu, hz⟩ := a4n ht
 obtain rfl := hlon rfl
 obtain ⟨u, rfl, hu'⟩ := hhi _ rfl
 cases hu'
 cases hm
 have key : ∀ (A : Option Addr) (n c : Nat), (Instr.sliceAt t (.slice A n c) none (some (.int k1 0)) (some (.int k2 0))).run P w = .ok (.slice A 0 0) w := fun A n c => by
  simp [Instr.sliceAt, Instr.slice, run_underlying hu, Instr.sliceBounds, Instr.sliceBound, asIntOf, a4a hz]
 split at h
 . obtain rfl := sI_ h
   cases hx
   exact ⟨_, key _ _ _, .nils⟩
 . obtain rfl := sI_ h
   cases hx
   exact ⟨_, key _ _ _, .emp _⟩
 . obtain rfl := sI_ h
   cases hx
   exact ⟨_, key _ _ _, .emp _⟩
 . obtain rfl := sI_ h
   cases hx
   . exact ⟨_, key _ _ _, .emp _⟩
   . exact ⟨_, key _ _ _, .emp _⟩
 . cases h
def b3j (P : Program) (ρ : Operand -> FV) (t : TypeId) (parts : Array (Nat × Operand)) : Option FV := match a4l P t, arE P t with
 | some z, some (_, e) => match szT P e with
   | some sz => (b2q (fun i => some (i * sz, sz)) z ((parts.toList.map (·.1)).zip ((parts.toList.map (·.2)).map ρ))).map .agg
   | none => none
 | _, _ => none
def pv2 (P : Program) (H : Heap) (ρ : Operand -> FV) (o : Oper) : Option FV := match o.op with
 | .lookup t x i ok => b2s P H t (ρ x) (ρ i) ok
 | .index t x i => fIdx P t (ρ x) (ρ i)
 | .field t x f => c4o P t (ρ x) f
 | .nilCheck x => fNil (ρ x)
 | .binOp op t x y _ => match c4r op (ρ x) (ρ y) with
   | some r => some r
   | none => fCmp P op t (ρ x) (ρ y)
 | .unOp op _ x => fUn2 op (ρ x)
 | .call { callee := .builtin .max, args := ⟨x :: xs⟩, argTypes := _ } => fMax (ρ x) (xs.map ρ)
 | .call { callee := .builtin .min, args := ⟨x :: xs⟩, argTypes := _ } => fMin (ρ x) (xs.map ρ)
 | .entry it => b3x H (ρ it)
 | .build t parts => b3j P ρ t parts
 | .slice t x lo hi (some mx) => c4m P t (ρ x) (lo.map ρ) (hi.map ρ) (ρ mx)
 | _ => none
theorem f1v (h : RelX X F m s a w) {o : Oper} {y : FV} (hs : pv2 P s.H (rv s) o = some y) : ∃ v, (execOp a.eval o).run P w = .ok (.value v) w /\ RF w F (fun l => s.H l ≠ none) m y v := by
 have hall : ∀ l : List Operand, RFs w F (fun l => s.H l ≠ none) m (l.map (rv s)) (l.map a.eval) := fun l => by
  induction l with
  | nil => exact .nil
  | cons x l ih => exact .cons _ _ _ _ (a3a h x) ih
 unfold pv2 at hs
 split at hs
 . rename_i t x i ok ho
   obtain ⟨v, h1, h2⟩ := e1m h.heap hs (a3a h x) (a3a h i)
   exact ⟨v, by simp [execOp, ho, h1], h2⟩
 . rename_i t x i ho
   obtain ⟨v, h1, h2⟩ := e8h hs (a3a h x) (a3a h i) w
   exact ⟨v, by simp [execOp, ho, h1], h2⟩
 . rename_i t x f ho
   obtain ⟨v, h1, h2⟩ := d0j hs (a3a h x) w
   exact ⟨v, by simp [execOp, ho, h1], h2⟩
 . rename_i x ho
   have hx := a3a h x
   generalize hv : a.eval x = v at hx
   unfold fNil at hs
   split at hs
   all_goals first
    | (cases hs; done)
    | (rename_i hq
       rw [hq] at hx
       obtain rfl := sI_ hs
       rw [hq]
       exact ⟨v, by cases hx; simp [execOp, ho, hv], hx⟩)
 . rename_i op t x y ty ho
   split at hs
   . rename_i r hr
     obtain rfl := sI_ hs
     obtain ⟨v, h1, h2⟩ := e1o (P := P) (t := t) (x := x) (y := y) hr (a3a h x) (a3a h y)
     refine ⟨v, ?_, h2⟩
     simp only [execOp, ho, Sem.run_bind] at h1 ⊢
     simp [h1]
   . obtain ⟨v, h1, h2⟩ := e8i (x := x) (y := y) hs (a3a h x) (a3a h y)
     refine ⟨v, ?_, h2⟩
     simp only [execOp, ho, Sem.run_bind] at h1 ⊢
     simp [h1]
 . rename_i op t x ho
   obtain ⟨v, h1, h2⟩ := e8f (P := P) hs (a3a h x)
   exact ⟨v, by simp [execOp, ho, h1], h2⟩
 . rename_i x xs ts ho
   obtain ⟨v, h1, h2⟩ := d6c (P := P) (xs.map (rv s)) (xs.map a.eval) _ _ _ hs (a3a h x) (hall xs) w
   exact ⟨v, by simp [execOp, ho, resolve, invoke, builtin, Builtin.max_, h1], h2⟩
 . rename_i x xs ts ho
   obtain ⟨v, h1, h2⟩ := d6b (P := P) (xs.map (rv s)) (xs.map a.eval) _ _ _ hs (a3a h x) (hall xs) w
   exact ⟨v, by simp [execOp, ho, resolve, invoke, builtin, Builtin.min_, h1], h2⟩
 . rename_i it ho
   obtain ⟨v, h1, h2⟩ := d6g (P := P) h.heap hs (a3a h it)
   exact ⟨v, by simp [execOp, ho, h1], h2⟩
 . rename_i t parts ho
   unfold b3j at hs
   split at hs
   case h_2 => cases hs
   rename_i z n e hz hte
   split at hs
   case h_2 => cases hs
   rename_i sz hsz
   rw [oM_] at hs
   obtain ⟨r, hr, rfl⟩ := hs
   have hu : P.underlying t = some (.array n e) := by
    unfold arE at hte
    split at hte
    . rename_i h1; simp only [sE_, Prod.mk.injEq] at hte; obtain ⟨rfl, rfl⟩ := hte; exact h1
    . cases hte
   obtain ⟨ie, hie, rfl⟩ : ∃ ie, P.info? e = some ie /\ ie.size = sz := by
    unfold szT at hsz
    rw [oM_] at hsz
    exact hsz
   unfold a4l at hz
   split at hz
   case h_2 => cases hz
   rename_i it hit
   split at hz
   case h_2 => cases hz
   rename_i zv hzv
   obtain rfl := sI_ hz
   have hparts : (parts.map fun (i, x) => (i, a.eval x)).toList = (parts.toList.map (·.1)).zip ((parts.toList.map (·.2)).map a.eval) := by
    rw [Array.toList_map]
    generalize parts.toList = l
    induction l with
    | nil => rfl
    | cons x l ih => obtain ⟨i, x⟩ := x; simp only [List.map_cons, List.zip_cons_cons, ih]
   obtain ⟨cells', k1, k2⟩ := c0r (w := w) (F := F) (U := fun l => s.H l ≠ none) (m := m) (fun i => some (i * ie.size, ie.size)) (parts.toList.map (·.1)) _ _ _ r zv.cells (by simp) (hall (parts.toList.map (·.2))) (RFs.cv1s _) hr
   have hb : P.built t (parts.map fun (i, x) => (i, a.eval x)).toList = some cells' := by
    unfold Program.built
    simp only [hit, hu, hzv, hie]
    rw [hparts]
    exact k1
   refine ⟨.agg cells', by simp only [execOp, ho, Sem.run_bind]; rw [run_build w t _ cells' hb]; rfl, ?_⟩
   simpa using RF.agg r cells'.toList k2
 . rename_i t x lo hi mx ho
   obtain ⟨v, h1, h2⟩ := d0g (P := P) (vlo := lo.map a.eval) (vhi := hi.map a.eval) hs (a3a h x) (a3a h mx) (fun e => by simpa using e) (fun f hf => by
    rw [oM_] at hf
    obtain ⟨z, rfl, rfl⟩ := hf
    exact ⟨_, rfl, a3a h z⟩)
   exact ⟨v, by simp [execOp, ho, h1], h2⟩
 . cases hs
def pv (P : Program) (H : Heap) (ρ : Operand -> FV) (o : Oper) : Option FV := match pv1 P H ρ o with
 | some y => some y
 | none => pv2 P H ρ o
theorem f7c (h : RelX X F m s a w) {o : Oper} {y : FV} (hs : pv P s.H (rv s) o = some y) : ∃ v, (execOp a.eval o).run P w = .ok (.value v) w /\ RF w F (fun l => s.H l ≠ none) m y v := by
 unfold pv at hs
 split at hs
 . rename_i z hz
   obtain rfl := sI_ hs
   exact f1w h hz
 . exact f1v h hs
end
def Ran (P : Program) (o : Oper) (a : Act) (w : World) (v : Value) (w' : World) : Prop :=
 (execOp a.eval o).run P w = .ok (.value v) w' \/ ((execOp a.eval o).run P w = .ok .skip w' /\ v = undef)
def putD (c : Cfg) (o : Oper) (x : FV) (s : Fs) : Option Fs := match o.dst with
 | none => some s
 | some d => if d < c.N then some (s.put d x) else none
def Snd (P : Program) (c : Cfg) (o : Oper) (s s' : Fs) : Prop :=
 ∀ (X : Ctx) (F : Nat -> Prop) (m : Loc -> Nat × Nat) (a : Act) (w : World), a.tmps.size = c.N -> RelX X F m s a w ->
   ∃ (m' : Loc -> Nat × Nat) (v : Value) (w' : World), Ran P o a w v w' /\ RelX X F m' s' (a.put o.dst v) w'
section
variable {P : Program} {X : Ctx} {c : Cfg} {w w' : World} {F F' : Nat -> Prop} {m m' : Loc -> Nat × Nat} {s s' : Fs} {a a' : Act} {o : Oper}
theorem b9t {x : FV} {v : Value} (h : RelX X F m s a w) (hN : a.tmps.size = c.N) (hx : RF w F (fun l => s.H l ≠ none) m x v) (hs : putD c o x s = some s') : RelX X F m s' (a.put o.dst v) w := by
 unfold putD at hs
 split at hs
 . rename_i hd
   obtain rfl : s = s' := by simpa using hs
   rw [hd]; exact h
 . rename_i d hd
   split at hs
   . rename_i hlt
     obtain rfl : s.put d x = s' := by simpa using hs
     rw [hd]
     exact h.put (hN ▸ hlt) hx
   . cases hs
theorem b3a (t : TypeId) (v : Value) (w : World) : (newVar t v).run P w = .ok ⟨w.heap.size, 0, none⟩ (w.alloc (.cells v.cells t (0, 0))) := by
 simp [newVar, newRow]
end
def a6q {α : Type} (sz : Nat) : Nat -> List α -> List (List α)
 | 0, _ => []
 | n + 1, l => l.take sz :: a6q sz n (l.drop sz)
theorem b2t {α : Type} (sz : Nat) : ∀ (n : Nat) (l : List α), (a6q sz n l).length = n
 | 0, _ => rfl
 | n + 1, l => by simp [a6q, b2t sz n]
theorem b1c {α : Type} (sz : Nat) : ∀ (n : Nat) (l : List α), l.length = n * sz -> (a6q sz n l).flatten = l
 | 0, l, h => by have : l = [] := eN_ (by simpa using h); subst this; rfl
 | n + 1, l, h => by
   rw [a6q, List.flatten_cons, b1c sz n (l.drop sz) (by rw [List.length_drop, h, Nat.add_mul]; omega), List.take_append_drop]
theorem b8t {α : Type} (sz : Nat) : ∀ (n : Nat) (l : List α), l.length = n * sz -> ∀ x ∈ a6q sz n l, x.length = sz
 | 0, l, h => by simp [a6q]
 | n + 1, l, h => by
   intro x hx
   rw [a6q] at hx
   rcases List.mem_cons.1 hx with rfl | hx
   . rw [List.length_take, h, Nat.add_mul]; omega
   . exact b8t sz n (l.drop sz) (by rw [List.length_drop, h, Nat.add_mul]; omega) x hx
section
variable {P : Program} {X : Ctx} {c : Cfg} {w w' : World} {F F' : Nat -> Prop} {U : Loc -> Prop} {m m' : Loc -> Nat × Nat} {s s' : Fs} {a a' : Act} {o : Oper}
theorem RFs.of_get : ∀ {as : List FV} {vs : List Value}, as.length = vs.length -> (∀ (i : Nat) (x : FV) (v : Value), as[i]? = some x -> vs[i]? = some v -> RF w F U m x v) -> RFs w F U m as vs
 | [], [], _, _ => .nil
 | x :: as, v :: vs, hl, h => .cons x v as vs (h 0 x v (by simp) (by simp)) (RFs.of_get (by simpa using hl) fun i y u hy hu => h (i + 1) y u (by simpa using hy) (by simpa using hu))
 | [], _ :: _, hl, _ => by simp at hl
 | _ :: _, [], hl, _ => by simp at hl
theorem e6f {α : Type} {z : List α} {n j : Nat} (hj : j < n * z.length) : (List.replicate n z).flatten[j]? = z[j % z.length]? := by
 have hz : 0 < z.length := by
  rcases Nat.eq_zero_or_pos z.length with h | h
  . rw [h] at hj; simp at hj
  . exact h
 have hq : j / z.length < n := Nat.div_lt_of_lt_mul (by rw [Nat.mul_comm]; exact hj)
 have := c8a z.length (List.replicate n z) (j / z.length) (j % z.length) z (fun x hx => by rw [List.eq_of_mem_replicate hx]) (by simp [hq]) (Nat.mod_lt _ hz)
 rw [<- this]
 congr 1
 rw [Nat.mul_comm]
 exact (Nat.div_add_mod j z.length).symm
theorem RelX.row (h : RelX X F m s a w) {l : Loc} {cells : Array Value} {T : TypeId} {rows : List (List FV)} {sz : Nat} (hl : s.H l = none) (hr : RFs w F (fun k => s.H k ≠ none) m rows.flatten cells.toList)
 (hlen : ∀ x ∈ rows, x.length = sz) (hsz : rows.length * sz = cells.size) (h0 : 0 < sz) :
 RelX X F (fun k => if k = l then (w.heap.size, cells.size) else m k) { s with H := upd s.H l (.cells T sz rows) } a (w.alloc (.cells cells T (0, 0))) := by
 by_cases hc : cells.size = 0
 . have hrow : rows = [] := by
    rw [hc] at hsz
    rcases Nat.mul_eq_zero.1 hsz with h1 | h1
    . exact eN_ h1
    . omega
   subst hrow
   have hold : ∀ b, b < w.heap.size -> (w.alloc (.cells cells T (0, 0))).heap[b]? = w.heap[b]? := fun b hb => by
    show (w.heap.push _)[b]? = _
    rw [Array.getElem?_push, if_neg (by omega)]
   exact h.fresh hl (by show w.heap.size < (w.heap.push _).size; simp) hold rfl rfl rfl (.inl ⟨rfl, by simp [hc]⟩)
 . exact h.alloc hl (by rw [hsz]; rw [tL_ (by simp)]; exact hr) hlen (Nat.le_of_eq hsz) hc
def upds (H : Heap) (us : List (Loc × FO)) : Heap := us.foldl (fun H u => upd H u.1 u.2) H
theorem d1f (us : List (Loc × FO)) : ∀ {H : Heap} {l : Loc}, H l ≠ none -> upds H us l ≠ none := by
 induction us with
 | nil => exact fun h => h
 | cons u us ih => exact fun {H l} h => ih (H := upd H u.1 u.2) (by unfold upd; split <;> simp [h])
def WOk (P : Program) (s : Fs) (o : Oper) (us : List (Loc × FO)) (v : FV) : Prop :=
 ∀ (X : Ctx) (F : Nat -> Prop) (m : Loc -> Nat × Nat) (a : Act) (w : World), RelX X F m s a w ->
   ∃ (m' : Loc -> Nat × Nat) (u : Value) (w' : World), Ran P o a w u w' /\ RelX X F m' { s with H := upds s.H us } a w' /\ RF w' F (fun l => upds s.H us l ≠ none) m' v u
theorem WOk.snd {us : List (Loc × FO)} {v : FV} (h : WOk P s o us v) (hs : putD c o v { s with H := upds s.H us } = some s') : Snd P c o s s' := by
 intro X F m a w hN hr
 obtain ⟨m', u, w', h1, h2, h3⟩ := h X F m a w hr
 exact ⟨m', u, w', h1, b9t h2 hN h3 hs⟩
theorem d2k (h : RelX X F m s a w) {l : Loc} {cells : Array Value} {T : TypeId} {rows : List (List FV)} {sz n : Nat} (hl : s.H l = none) (hr : RFs w F (fun k => s.H k ≠ none) m rows.flatten cells.toList)
 (hlen : ∀ x ∈ rows, x.length = sz) (hrl : rows.length = n) (hsz : n * sz = cells.size) (h0 : 0 < sz) (len : Nat) (hle : len <= n) :
 ∃ m', RelX X F m' { s with H := upds s.H [(l, .cells T sz rows)] } a (w.alloc (.cells cells T (0, 0))) /\ RF (w.alloc (.cells cells T (0, 0))) F (fun k => upds s.H [(l, .cells T sz rows)] k ≠ none) m' (.sl l sz 0 len) (.slice (some ⟨w.heap.size, 0, none⟩) len n) := by
 refine ⟨_, h.row (T := T) hl hr hlen (by rw [hrl]; exact hsz) h0, ?_⟩
 have := RF.sl (w := w.alloc (.cells cells T (0, 0))) (F := F) (U := fun k => upds s.H [(l, .cells T sz rows)] k ≠ none) (m := fun k => if k = l then (w.heap.size, cells.size) else m k) l sz 0 len n 0 (by simp [upds, upd]) hle (.inr (by simp)) (by simp [hsz])
 simpa using this
def a7c (P : Program) (H : Heap) (ρ : Operand -> FV) (nm : Loc) (t : TypeId) (len : Nat) (parts : Array (Nat × Operand)) : Option (List (Loc × FO) × FV) := match slT P t with
 | some (e, sz) => match a4l P e with
   | some z => if (decide (z.length = sz) && (decide (0 < sz) && decide (len * sz <= 16777216))) && (H nm).isNone then
    (b2q (fun i => some (i * sz, sz)) (List.replicate len z).flatten ((parts.toList.map (·.1)).zip ((parts.toList.map (·.2)).map ρ))).bind fun r =>
     if r.length = len * sz then some ([(nm, .cells e sz (a6q sz len r))], .sl nm sz 0 len) else none
    else none
   | none => none
 | none => none
theorem d2i (h : RelX X F m s a w) : ∀ l : List Operand, RFs w F (fun l => s.H l ≠ none) m (l.map (rv s)) (l.map a.eval)
 | [] => .nil
 | x :: l => .cons _ _ _ _ (a3a h x) (d2i h l)
theorem b9b {z : List FV} {zc : Array Value} {sz len : Nat} (h0 : 0 < sz) (hzl : z.length = sz) (hzs : zc.size = sz) (hz : RFs w F U m z zc.toList) :
 RFs w F U m (List.replicate len z).flatten ((Array.range (len * sz)).map fun k => zc[k % zc.size]!).toList := by
 have hfl : (List.replicate len z).flatten.length = len * sz := by rw [a5b sz _ (fun x hx => by rw [List.eq_of_mem_replicate hx]; exact hzl)]; simp
 refine RFs.of_get (by rw [hfl]; simp) fun i x v hx hv => ?_
 have hi : i < len * sz := by rw [<- hfl]; exact (List.getElem?_eq_some_iff.1 hx).1
 rw [e6f (by rw [hzl]; exact hi), hzl] at hx
 have hmod : i % sz < sz := Nat.mod_lt _ h0
 obtain ⟨u, k1, k2⟩ := hz.get (i % sz) hx
 have hv' : v = zc[i % sz]! := by
  rw [Array.getElem?_toList, Array.getElem?_map, Array.getElem?_range, if_pos hi] at hv
  simp only [Option.map_some, sE_] at hv
  rw [<- hv, hzs]
 have hu' : zc[i % sz]! = u := by
  rw [Array.getElem?_toList] at k1
  rw [Array.getElem!_eq_getD, Array.getD_eq_getD_getElem?, k1]; rfl
 rw [hv', hu']; exact k2
theorem c9h {nm : Loc} {t : TypeId} {len : Nat} {parts : Array (Nat × Operand)} {us : List (Loc × FO)} {v : FV} (hs : a7c P s.H (rv s) nm t len parts = some (us, v)) (ho : o.op = .buildSlice t len parts) : WOk P s o us v := by
 intro X F m a w h
 unfold a7c at hs
 split at hs
 case h_2 => cases hs
 rename_i e sz ht
 obtain ⟨hu, hz⟩ := a4n ht
 split at hs
 case h_2 => cases hs
 rename_i z hzc
 split at hs
 case isFalse => cases hs
 rename_i hc
 simp only [bA_, dE_, Option.isNone_iff_eq_none] at hc
 obtain ⟨⟨hzl, h0, h24⟩, hnm⟩ := hc
 rw [Option.bind_eq_some_iff] at hs
 obtain ⟨r, hr, hs⟩ := hs
 split at hs
 case isFalse => cases hs
 rename_i hrl
 simp only [sE_, Prod.mk.injEq] at hs
 obtain ⟨rfl, rfl⟩ := hs
 obtain ⟨zv, g1, g2, g3⟩ := b4h (w := w) (F := F) (U := fun k => s.H k ≠ none) (m := m) hzc
 have hzs : zv.cells.size = sz := by omega
 have hbase := b9b (len := len) h0 hzl hzs g2
 obtain ⟨cells', k1, k2⟩ := c0r (w := w) (F := F) (U := fun k => s.H k ≠ none) (m := m) (fun i => some (i * sz, sz)) (parts.toList.map (·.1)) _ _ _ r _ (by simp) (d2i h (parts.toList.map (·.2))) hbase hr
 have hparts : (parts.map fun (i, x) => (i, a.eval x)).toList = (parts.toList.map (·.1)).zip ((parts.toList.map (·.2)).map a.eval) := by
  rw [Array.toList_map]
  generalize parts.toList = q
  induction q with
  | nil => rfl
  | cons x q ih => obtain ⟨i, x⟩ := x; simp only [List.map_cons, List.zip_cons_cons, ih]
 have hcs : cells'.size = len * sz := by have := k2.length; rw [hrl] at this; simpa using this.symm
 obtain ⟨m', h1, h2⟩ := d2k h (T := e) (cells := cells') (rows := a6q sz len r) (sz := sz) (n := len) hnm (by rw [b1c sz len r hrl]; exact k2) (b8t sz len r hrl) (b2t sz len r) (by rw [hcs]) h0 len (nr_ _)
 have hrun : (Instr.buildSlice t len (parts.map fun (i, x) => (i, a.eval x))).run P w = .ok (.slice (some ⟨w.heap.size, 0, none⟩) len len) (w.alloc (.cells cells' e (0, 0))) := by
  have h24' : ¬ (16777216 < len * sz) := by omega
  have hfill : Instr.fill (fun i => some (i * sz, sz)) ((Array.range (len * sz)).map fun k => zv.cells[k % zv.cells.size]!) (parts.map fun (i, x) => (i, a.eval x)).toList = some cells' := by rw [hparts]; exact k1
  by_cases hz0 : len * sz = 0
  . have e2 : ∀ f : Nat -> Value, (Array.range 0).map f = #[] := fun f => by simp
    rw [hz0, e2] at hfill
    simp only [Instr.buildSlice, Sem.run_bind, run_underlying hu, Result.andThen_ok, a4a hz, h24', if_false, hz0, if_true, Sem.run_pure, e2, hfill, newRow]
    simp
  . simp only [Instr.buildSlice, Sem.run_bind, run_underlying hu, Result.andThen_ok, a4a hz, h24', if_false, hz0, g1, Sem.run_pure, hfill, newRow]
    simp
 exact ⟨m', _, _, .inl (by simp only [execOp, ho, Sem.run_bind, hrun]; rfl), h1, h2⟩
end
section
variable {P : Program} {X : Ctx} {c : Cfg} {w w' : World} {F F' : Nat -> Prop} {U : Loc -> Prop} {m m' : Loc -> Nat × Nat} {s s' : Fs} {a a' : Act} {o : Oper}
def b3t (P : Program) (H : Heap) (nm : Loc) (t : TypeId) : Option (List (Loc × FO) × FV) := match a4l P t with
 | some cs => if (H nm).isNone then (if cs.isEmpty then some ([(nm, .cells t 0 [])], .ptr nm 0 0 0) else some ([(nm, .cells t cs.length [cs])], .ptr nm cs.length 0 0)) else none
 | none => none
def wBox (H : Heap) (nm : Loc) (t : TypeId) (x : FV) : Option (List (Loc × FO) × FV) :=
 if (x.storable && !x.cellsL.isEmpty) && (H nm).isNone then some ([(nm, .cells t x.cellsL.length [x.cellsL])], .ptr nm x.cellsL.length 0 0) else none
def a7v (P : Program) (H : Heap) (t : TypeId) (ad x : FV) : Option (List (Loc × FO) × FV) := match szT P t, ad with
 | some 0, .ptr .. => match x with
   | .agg [] => some ([], .undef)
   | _ => none
 | some n, .ptr l sz i off => match H l with
   | some (.cells T sz' xs) => match xs[i]? with
     | some r => if decide (sz' = sz) && (decide (x.cellsL.length = n) && (x.storable && decide (off + n <= r.length))) then
      some ([(l, .cells T sz (xs.modify i fun r => r.take off ++ x.cellsL ++ r.drop (off + x.cellsL.length)))], .undef) else none
     | none => none
   | _ => none
 | _, _ => none
theorem f2g (h : RelX X F m s a w) {l : Loc} {cs : List FV} {v : Value} {t : TypeId} (hl : s.H l = none) (hcs : RFs w F (fun k => s.H k ≠ none) m cs v.cells.toList) (h0 : cs ≠ []) :
 ∃ m', RelX X F m' { s with H := upds s.H [(l, .cells t cs.length [cs])] } a (w.alloc (.cells v.cells t (0, 0))) /\ RF (w.alloc (.cells v.cells t (0, 0))) F (fun k => upds s.H [(l, .cells t cs.length [cs])] k ≠ none) m' (.ptr l cs.length 0 0) (.pointer (some ⟨w.heap.size, 0, none⟩)) := by
 have hlen := hcs.length
 have hsz : v.cells.size = cs.length := by rw [hlen]; simp
 have hpos : 0 < cs.length := List.length_pos_iff.2 h0
 refine ⟨_, h.alloc (T := t) (cells := v.cells) (rows := [cs]) (sz := cs.length) hl (by
  simp only [List.flatten_cons, List.flatten_nil, List.append_nil, List.length_cons, List.length_nil, Nat.zero_add, Nat.one_mul]
  rw [tL_ (by simp [hsz])]
  exact hcs) (by simp) (by simp [hsz]) (by omega), ?_⟩
 have := RF.ptr (w := w.alloc (.cells v.cells t (0, 0))) (F := F) (U := fun k => upds s.H [(l, .cells t cs.length [cs])] k ≠ none) (m := fun k => if k = l then (w.heap.size, v.cells.size) else m k) l cs.length 0 0 (by simp [upds, upd])
 simpa using this
theorem d1b {nm : Loc} {t : TypeId} {us : List (Loc × FO)} {v : FV} (hs : b3t P s.H nm t = some (us, v)) (ho : o.op = .alloc t) : WOk P s o us v := by
 intro X F m a w h
 unfold b3t at hs
 split at hs
 case h_2 => cases hs
 rename_i cs hz
 split at hs
 case isFalse => cases hs
 rename_i hc
 simp only [Option.isNone_iff_eq_none] at hc
 obtain ⟨z, hz1, hz2, hz3⟩ := b4h (w := w) (F := F) (U := fun k => s.H k ≠ none) (m := m) hz
 split at hs
 . rename_i he
   simp only [sE_, Prod.mk.injEq] at hs
   obtain ⟨rfl, rfl⟩ := hs
   have hcs : cs = [] := by simpa using he
   have hz0 : z.cells.size = 0 := by rw [<- hz3, hcs]; rfl
   have hold : ∀ b, b < w.heap.size -> (w.alloc (.cells z.cells t (0, 0))).heap[b]? = w.heap[b]? := fun b hb => by
    show (w.heap.push _)[b]? = _
    rw [Array.getElem?_push, if_neg (by omega)]
   have hR := h.fresh (l := nm) (o := .cells t 0 []) (n := 0) (w' := w.alloc (.cells z.cells t (0, 0))) hc (by show w.heap.size < (w.heap.push _).size; simp) hold rfl rfl rfl (.inl ⟨rfl, by simp⟩)
   refine ⟨_, .pointer (some ⟨w.heap.size, 0, none⟩), _, .inl (by simp [execOp, ho, Instr.alloc, hz1, b3a]), hR, ?_⟩
   have := RF.ptr (w := w.alloc (.cells z.cells t (0, 0))) (F := F) (U := fun k => upds s.H [(nm, .cells t 0 [])] k ≠ none) (m := fun k => if k = nm then (w.heap.size, 0) else m k) nm 0 0 0 (by simp [upds, upd])
   simpa using this
 . rename_i he
   simp only [sE_, Prod.mk.injEq] at hs
   obtain ⟨rfl, rfl⟩ := hs
   obtain ⟨m', h1, h2⟩ := f2g (t := t) h hc hz2 (by simpa using he)
   exact ⟨m', _, _, .inl (by simp [execOp, ho, Instr.alloc, hz1, b3a]), h1, h2⟩
theorem e4s {nm : Loc} {t : TypeId} {x : Operand} {us : List (Loc × FO)} {v : FV} (hs : wBox s.H nm t (rv s x) = some (us, v)) (ho : o.op = .box t x) : WOk P s o us v := by
 intro X F m a w h
 unfold wBox at hs
 split at hs
 case isFalse => cases hs
 rename_i hc
 simp only [bA_, Bool.not_eq_true', List.isEmpty_eq_false_iff, Option.isNone_iff_eq_none] at hc
 simp only [sE_, Prod.mk.injEq] at hs
 obtain ⟨rfl, rfl⟩ := hs
 obtain ⟨g1, g2⟩ := (a3a h x).cells hc.1.1
 obtain ⟨m', h1, h2⟩ := f2g (t := t) h hc.2 g1 hc.1.2
 exact ⟨m', _, _, .inl (by simp [execOp, ho, Instr.box, b3a]), h1, h2⟩
theorem d0u {t : TypeId} {ad x : Operand} {us : List (Loc × FO)} {v : FV} (hs : a7v P s.H t (rv s ad) (rv s x) = some (us, v)) (ho : o.op = .store t ad x) : WOk P s o us v := by
 intro X F m a w h
 unfold a7v at hs
 split at hs
 case h_3 => cases hs
 case h_1 =>
  rename_i l sz i off hz hp
  split at hs
  case h_2 => cases hs
  rename_i hx
  simp only [sE_, Prod.mk.injEq] at hs
  obtain ⟨rfl, rfl⟩ := hs
  have hxv := a3a h x
  rw [hx] at hxv
  have had := a3a h ad
  rw [hp] at had
  generalize hxe : a.eval x = vx at hxv
  generalize hva : a.eval ad = va at had
  cases hxv with
  | agg _ vs hvs =>
  cases hvs
  cases had
  exact ⟨m, undef, w, .inr ⟨by simp [execOp, ho, hva, hxe, Instr.storeAt, Instr.sureAddr, storeVar, a4a hz, Value.cells, storeCells], rfl⟩, h, .undef _⟩
 rename_i n l sz i off _ hz hp
 split at hs
 case h_2 => cases hs
 rename_i T sz' xs hl
 split at hs
 case h_2 => cases hs
 rename_i r hr
 split at hs
 case isFalse => cases hs
 rename_i hc
 simp only [bA_, dE_] at hc
 obtain ⟨rfl, hn, hst, hle⟩ := hc
 simp only [sE_, Prod.mk.injEq] at hs
 obtain ⟨rfl, rfl⟩ := hs
 obtain ⟨g1, g2⟩ := (a3a h x).cells hst
 have had := a3a h ad
 rw [hp] at had
 generalize hva : a.eval ad = va at had
 cases had
 have hlen := g1.length
 obtain ⟨w', k1, k2⟩ := h.store (P := P) (off := off) hl hr (by omega) g1 (g1.one g2)
 have hsz : (a.eval x).cells.size = n := by rw [<- hn, hlen]; simp
 exact ⟨m, undef, w', .inr ⟨by simp [execOp, ho, hva, Instr.storeAt, Instr.sureAddr, storeVar, a4a hz, hsz, k1], rfl⟩, k2, .undef _⟩
def b3s (P : Program) (H : Heap) (nm : Loc) (t : TypeId) (x y : FV) : Option (List (Loc × FO) × FV) := match slT P t, x, y with
 | some (e, sz), .int _ len, .int _ cap => match a4l P e, byT P e with
   | some z, some by_ => if ((decide (z.length = sz) && decide (0 < sz)) && ((decide (0 <= len) && decide (len <= cap)) && (decide (cap <= 4611686018427387904) && decide ((by_ : Int) * cap <= 281474976710656)))) && (H nm).isNone then
    some ([(nm, .cells e sz (List.replicate cap.toNat z))], .sl nm sz 0 len.toNat) else none
   | _, _ => none
 | _, _, _ => none
theorem d0y {nm : Loc} {t : TypeId} {x y : Operand} {us : List (Loc × FO)} {v : FV} (hs : b3s P s.H nm t (rv s x) (rv s y) = some (us, v)) (ho : o.op = .makeSlice t x y) : WOk P s o us v := by
 intro X F m a w h
 unfold b3s at hs
 split at hs
 case h_2 => cases hs
 rename_i e sz k1 len k2 cap ht hx hy
 obtain ⟨hu, hz⟩ := a4n ht
 split at hs
 case h_2 => cases hs
 rename_i z by_ hzc hby
 obtain ⟨i, hi, rfl⟩ := c8r hby
 split at hs
 case isFalse => cases hs
 rename_i hc
 simp only [bA_, dE_, Option.isNone_iff_eq_none] at hc
 obtain ⟨⟨⟨hzl, h0⟩, ⟨hl0, hlc⟩, hc62, hb⟩, hnm⟩ := hc
 simp only [sE_, Prod.mk.injEq] at hs
 obtain ⟨rfl, rfl⟩ := hs
 have hxv := a3a h x
 have hyv := a3a h y
 rw [hx] at hxv
 rw [hy] at hyv
 generalize hxe : a.eval x = vx at hxv
 generalize hye : a.eval y = vy at hyv
 cases hxv; cases hyv
 obtain ⟨zv, g1, g2, g3⟩ := b4h (w := w) (F := F) (U := fun k => s.H k ≠ none) (m := m) hzc
 have hzs : zv.cells.size = sz := by omega
 have hbase := b9b (len := cap.toNat) h0 hzl hzs g2
 obtain ⟨m', h1, h2⟩ := d2k h (T := e) (cells := (Array.range (cap.toNat * sz)).map fun k => zv.cells[k % zv.cells.size]!) (rows := List.replicate cap.toNat z) (sz := sz) (n := cap.toNat) hnm hbase
  (fun x hx => by rw [List.eq_of_mem_replicate hx]; exact hzl) (by simp) (by simp) h0 len.toNat (by omega)
 have hw1 : IntKind.i64.wrap len = len := by rw [IntKind.wrap_i64]; omega
 have hw2 : IntKind.i64.wrap cap = cap := by rw [IntKind.wrap_i64]; omega
 have hrun : (Instr.makeSlice t (.int k1 len) (.int k2 cap)).run P w = .ok (.slice (some ⟨w.heap.size, 0, none⟩) len.toNat cap.toNat) (w.alloc (.cells ((Array.range (cap.toNat * sz)).map fun k => zv.cells[k % zv.cells.size]!) e (0, 0))) := by
  have c1 : ¬ cap < 0 := by omega
  have c2 : ¬ (281474976710656 < (i.bytes : Int) * cap) := by omega
  have c3 : ¬ len < 0 := by omega
  have c4 : ¬ cap < len := by omega
  by_cases hz0 : cap.toNat * sz = 0
  . have e2 : ∀ f : Nat -> Value, (Array.range 0).map f = #[] := fun f => by simp
    simp only [hz0, e2]
    simp [Instr.makeSlice, run_underlying hu, asInt, asIntOf, hw1, hw2, typeInfo, hi, a4a hz, hz0, c1, c2, c3, c4, newRow]
    rw [e2]
  . simp [Instr.makeSlice, run_underlying hu, asInt, asIntOf, hw1, hw2, typeInfo, hi, a4a hz, hz0, c1, c2, c3, c4, g1, newRow]
 exact ⟨m', _, _, .inl (by simp only [execOp, ho, hxe, hye, Sem.run_bind, hrun]; rfl), h1, h2⟩
theorem RelX.obj (h : RelX X F m s a w) {l : Loc} {ob : Obj} {o : FO} {n : Nat} (hl : s.H l = none) (ho : OR (w.alloc ob) F (upd s.H l o) (fun k => if k = l then (w.heap.size, n) else m k) l o) :
 RelX X F (fun k => if k = l then (w.heap.size, n) else m k) { s with H := upd s.H l o } a (w.alloc ob) := by
 obtain ⟨_, h2⟩ := MapKept.heap_alloc w ob
 exact h.fresh hl (by show w.heap.size < (w.heap.push _).size; simp) h2 rfl rfl rfl ho
theorem RelX.turn (h : RelX X F m s a w) {l : Loc} {o0 o : FO} {ob0 ob : Obj} (hl : s.H l = some o0) (hne0 : o0 ≠ .dead) (h0 : (m l).2 ≠ 0) (hne : o ≠ .dead) (hob : w.heap[(m l).1]? = some ob0)
 (ho : ∀ w' : World, w'.heap[(m l).1]? = some ob -> (∀ b, b ≠ (m l).1 -> w'.heap[b]? = w.heap[b]?) -> OR w' F (upd s.H l o) m l o) :
 RelX X F m { s with H := upd s.H l o } a { w with heap := w.heap.setIfInBounds (m l).1 ob } := by
 obtain ⟨g1, g2⟩ := MapKept.heap_set (o' := ob) hob
 exact h.write hl ⟨o0, hl, hne0, h0⟩ hne (by simp) (fun b _ hb => g2 b hb) rfl rfl rfl (ho _ g1 g2)
theorem a7b {l : Nat} {es : Array MapEntry} {clk : Nat} (h : w.heap[l]? = some (.map es clk)) : (getObj l).run P w = .ok (.map es clk) w := by simp [getObj, Sem.run, h]
theorem b2x {l : Nat} {es : Array MapEntry} {clk : Nat} (o : Obj) (h : w.heap[l]? = some (.map es clk)) : (setObj l o).run P w = .ok () { w with heap := w.heap.setIfInBounds l o } := by simp [setObj, Sem.run, h]
theorem b1i {l : Nat} {q : Option Nat} {since last : Nat} {seen : Array Nat} (h : w.heap[l]? = some (.mapIter q since seen last)) : (getObj l).run P w = .ok (.mapIter q since seen last) w := by simp [getObj, Sem.run, h]
theorem c3t {l : Nat} {q : Option Nat} {since last : Nat} {seen : Array Nat} (o : Obj) (h : w.heap[l]? = some (.mapIter q since seen last)) : (setObj l o).run P w = .ok () { w with heap := w.heap.setIfInBounds l o } := by simp [setObj, Sem.run, h]
def b1v (P : Program) (H : Heap) (nm : Loc) (r : Option FV) : Option (List (Loc × FO) × FV) := match r with
 | none => if (H nm).isNone then some ([(nm, .map [] 0)], .mp nm) else none
 | _ => none
theorem d0z {nm : Loc} {t : TypeId} {r : Option Operand} {us : List (Loc × FO)} {v : FV} (hs : b1v P s.H nm (r.map (rv s)) = some (us, v)) (ho : o.op = .makeMap t r) : WOk P s o us v := by
 intro X F m a w h
 cases r with
 | some r => simp [b1v] at hs
 | none =>
 simp only [b1v, Option.map_none] at hs
 split at hs
 case isFalse => cases hs
 rename_i hc
 simp only [Option.isNone_iff_eq_none] at hc
 simp only [sE_, Prod.mk.injEq] at hs
 obtain ⟨rfl, rfl⟩ := hs
 obtain ⟨g1, _⟩ := MapKept.heap_alloc w (.map #[] 0)
 refine ⟨_, .map (some w.heap.size), _, .inl (by simp [execOp, ho, Instr.makeMap]), h.obj (n := 1) (ob := .map #[] 0) (o := .map [] 0) hc ⟨by simp, #[], by simpa using g1, .nil⟩, ?_⟩
 have := RF.mp (w := w.alloc (.map #[] 0)) (F := F) (U := fun k => upds s.H [(nm, .map [] 0)] k ≠ none) (m := fun k => if k = nm then (w.heap.size, 1) else m k) nm (by simp [upds, upd])
 simpa using this
def b1f (P : Program) (H : Heap) (t : TypeId) (x k v : FV) : Option (List (Loc × FO) × FV) := match mpT P t, x with
 | some (kt, _), .mp l => match H l with
   | some (.map es clk) => if a8q P kt k then (match a8a P kt k es 0 with
     | some (some (i, _)) => some ([(l, .map (es.modify i fun e => (k, v, e.2.2)) clk)], .undef)
     | some none => some ([(l, .map (es ++ [(k, v, clk)]) (clk + 1))], .undef)
     | none => none) else none
   | _ => none
 | _, _ => none
theorem REs.modify {es : List (FV × FV × Nat)} {xs : List MapEntry} (h : REs w F U m es xs) {k v : FV} {vk vv : Value} (hk : RF w F U m k vk) (hv : RF w F U m v vv) (i : Nat) :
 REs w F U m (es.modify i fun e => (k, v, e.2.2)) (xs.modify i fun e => { e with key := vk, val := vv }) := by
 induction h generalizing i with
 | nil => simpa using REs.nil
 | cons e x es xs h hs ih =>
   cases i with
   | zero => simpa using REs.cons (k, v, e.2.2) { x with key := vk, val := vv } _ _ ⟨hk, hv, h.born⟩ hs
   | succ i => simpa using REs.cons _ _ _ _ h (ih i)
theorem REs.get {es : List (FV × FV × Nat)} {xs : List MapEntry} (h : REs w F U m es xs) {i : Nat} {e : FV × FV × Nat} (he : es[i]? = some e) : ∃ x, xs[i]? = some x /\ RE w F U m e x := by
 induction h generalizing i with
 | nil => simp at he
 | cons e' x es xs h hs ih =>
   cases i with
   | zero => simp at he; subst he; exact ⟨x, by simp, h⟩
   | succ i =>
     obtain ⟨y, g1, g2⟩ := ih (by simpa using he)
     exact ⟨y, by simpa using g1, g2⟩
theorem b8r {t : TypeId} {k : FV} : ∀ {es : List (FV × FV × Nat)} {i : Nat} {j : Nat} {v : FV}, a8a P t k es i = some (some (j, v)) -> ∃ n e, j = i + n /\ es[n]? = some e /\ eqK P t k e.1 = some true
 | [], i, j, v, h => by simp [a8a] at h
 | e :: es, i, j, v, h => by
   simp only [a8a] at h
   split at h
   . rename_i hq
     simp only [sE_, Prod.mk.injEq] at h
     exact ⟨0, e, by omega, by simp, hq⟩
   . obtain ⟨n, e', h1, h2, h3⟩ := b8r h
     exact ⟨n + 1, e', by omega, by simpa using h2, h3⟩
   . cases h
theorem c8g (x y : FV) : eqV x y = eqV y x := by
 cases x <;> cases y <;> simp [eqV, eq_comm, Bool.beq_comm]
theorem b3z : ∀ (ks : List Kd) (xs ys : List FV), xs.length = ks.length -> ys.length = ks.length -> a3q ks xs ys = a3q ks ys xs
 | [], _, _, _, _ => rfl
 | k :: ks, x :: xs, y :: ys, h1, h2 => by
   simp only [a3q, b3z ks xs ys (by simpa using h1) (by simpa using h2), c8g x y]
   split <;> split <;> rfl
theorem e1q {t : TypeId} {x y : FV} : eqK P t x y = eqK P t y x := by
 unfold eqK
 split
 . rw [c8g x y]; split <;> split <;> rfl
 . cases stT P t with
   | none => rfl
   | some ks =>
     cases x <;> cases y <;> first | rfl | skip
     rename_i xs ys
     simp only
     by_cases h1 : xs.length = ks.length <;> by_cases h2 : ys.length = ks.length <;> simp only [h1, h2, if_true, if_false]
     exact b3z ks xs ys h1 h2
theorem c5j {t : TypeId} {x k v : Operand} {us : List (Loc × FO)} {r : FV} (hs : b1f P s.H t (rv s x) (rv s k) (rv s v) = some (us, r)) (ho : o.op = .mapUpdate t x k v \/ o.op = .insert t x k v) : WOk P s o us r := by
 intro X F m a w h
 unfold b1f at hs
 split at hs
 case h_2 => cases hs
 rename_i kt et l hmt hx
 have hmt := b9x hmt
 split at hs
 case h_2 => cases hs
 rename_i es clk hl
 split at hs
 case isFalse => cases hs
 rename_i hko
 have hxv := a3a h x
 rw [hx] at hxv
 generalize hxe : a.eval x = vx at hxv
 cases hxv with
 | mp _ hul =>
 have hkv := a3a h k
 have hvv := a3a h v
 obtain ⟨h0, ar, g1, g2⟩ := h.heap.obj _ _ hl
 have hck := b0b (P := P) hko hkv false 9998 w
 have hexec : (execOp a.eval o) = (do Instr.mapUpdate t (.map (some (m l).1)) (a.eval k) (a.eval v); pure .skip) := by
  rcases ho with ho | ho <;> simp [execOp, ho, hxe]
 split at hs
 . rename_i i u hf
   simp only [sE_, Prod.mk.injEq] at hs
   obtain ⟨rfl, rfl⟩ := hs
   obtain ⟨r', k1, k2⟩ := a7o hko hkv hf g2 w
   cases r' with
   | none => exact k2.elim
   | some q =>
     obtain ⟨j, u'⟩ := q
     obtain ⟨rfl, k2⟩ := k2
     obtain ⟨n, e, e1, e2, e3⟩ := b8r hf
     obtain rfl : i = n := by omega
     obtain ⟨x', e4, e5⟩ := g2.get e2
     have hsb : Instr.sameBits 10000 x'.key (a.eval k) = true := e1r (by rw [e1q]; exact e3) e5.key hkv 9999
     have e6 : ar[i]? = some x' := by simpa using e4
     refine ⟨m, undef, _, .inr ⟨?_, rfl⟩, h.turn (o := .map (es.modify i fun e => (rv s k, rv s v, e.2.2)) clk) (ob := .map (ar.modify i fun e => { e with key := a.eval k, val := a.eval v }) clk) hl (by simp) h0 (by simp) g1 (fun w' q1 q2 => ?_), .undef _⟩
     . rw [hexec]
       simp [Instr.mapUpdate, run_underlying hmt, a7b g1, hck, k1, Instr.keyThatStays, e6, hsb, b2x _ g1]
     . refine ⟨h0, _, q1, ?_⟩
       rw [Array.toList_modify]
       have hne : ∀ b, F b -> w'.heap[b]? = w.heap[b]? := fun b hb => q2 b fun e => (h.heap.old l ⟨_, hl, by simp, h0⟩).2 (e ▸ hb)
       have hU : ∀ k', s.H k' ≠ none -> upd s.H l (.map (es.modify i fun e => (rv s k, rv s v, e.2.2)) clk) k' ≠ none := fun k' hk => by unfold upd; split <;> simp [hk]
       exact (g2.modify hkv hvv i).keep (fun _ h => h) hne hU (fun _ _ => rfl)
 . rename_i hf
   simp only [sE_, Prod.mk.injEq] at hs
   obtain ⟨rfl, rfl⟩ := hs
   obtain ⟨r', k1, k2⟩ := a7o hko hkv hf g2 w
   cases r' with
   | some q => exact k2.elim
   | none =>
     refine ⟨m, undef, _, .inr ⟨?_, rfl⟩, h.turn (o := .map (es ++ [(rv s k, rv s v, clk)]) (clk + 1)) (ob := .map (ar.push { key := a.eval k, val := a.eval v, born := clk }) (clk + 1)) hl (by simp) h0 (by simp) g1 (fun w' q1 q2 => ?_), .undef _⟩
     . rw [hexec]
       simp [Instr.mapUpdate, run_underlying hmt, a7b g1, hck, k1, b2x _ g1]
     . refine ⟨h0, _, q1, ?_⟩
       rw [Array.toList_push]
       have hne : ∀ b, F b -> w'.heap[b]? = w.heap[b]? := fun b hb => q2 b fun e => (h.heap.old l ⟨_, hl, by simp, h0⟩).2 (e ▸ hb)
       have hU : ∀ k', s.H k' ≠ none -> upd s.H l (.map (es ++ [(rv s k, rv s v, clk)]) (clk + 1)) k' ≠ none := fun k' hk => by unfold upd; split <;> simp [hk]
       exact (g2.append (.cons _ _ _ _ ⟨hkv, hvv, rfl⟩ .nil)).keep (fun _ h => h) hne hU (fun _ _ => rfl)
 . cases hs
def b1t (P : Program) (H : Heap) (nm : Loc) (t : TypeId) (x : FV) : Option (List (Loc × FO) × FV) := match mpT P t with
 | none => none
 | some _ => if (H nm).isNone then (match x with
   | .mp l => match H l with
     | some (.map _ clk) => some ([(nm, .iter x clk [] clk)], .ptr nm 0 0 0)
     | _ => none
   | .nilm => some ([(nm, .iter .nilm 0 [] 0)], .ptr nm 0 0 0)
   | _ => none) else none
theorem d0w {nm : Loc} {t : TypeId} {x : Operand} {us : List (Loc × FO)} {v : FV} (hs : b1t P s.H nm t (rv s x) = some (us, v)) (ho : o.op = .range t x) : WOk P s o us v := by
 intro X F m a w h
 unfold b1t at hs
 split at hs
 . cases hs
 rename_i ke hmt
 obtain ⟨kt, et⟩ := ke
 have hmt := b9x hmt
 split at hs
 case isFalse => cases hs
 rename_i hc
 simp only [Option.isNone_iff_eq_none] at hc
 have hxv := a3a h x
 have key : ∀ (f : FV) (q : Option Nat) (since : Nat), RF w F (fun l => s.H l ≠ none) m f (.map q) -> (Instr.range t (a.eval x)).run P w = .ok (.pointer (some ⟨w.heap.size, 0, none⟩)) (w.alloc (.mapIter q since #[] since)) ->
  ∃ (m' : Loc -> Nat × Nat) (u : Value) (w' : World), Ran P o a w u w' /\ RelX X F m' { s with H := upds s.H [(nm, .iter f since [] since)] } a w' /\ RF w' F (fun l => upds s.H [(nm, .iter f since [] since)] l ≠ none) m' (.ptr nm 0 0 0) u := by
  intro f q since hf hrun
  obtain ⟨g1, g2⟩ := MapKept.heap_alloc w (.mapIter q since #[] since)
  have hR := h.obj (l := nm) (n := 1) (ob := .mapIter q since #[] since) (o := .iter f since [] since) hc ⟨by simp, q, hf.keep (fun _ h => h) (fun b hb => g2 b (h.frz b hb)) (fun k hk => by unfold upd; split <;> simp [hk]) (fun k hk => by
   have : k ≠ nm := fun e => hk (e ▸ hc)
   simp [this]), by simpa using g1⟩
  refine ⟨_, .pointer (some ⟨w.heap.size, 0, none⟩), _, .inl (by simp [execOp, ho, hrun]), hR, ?_⟩
  have := RF.ptr (w := w.alloc (.mapIter q since #[] since)) (F := F) (U := fun k => upds s.H [(nm, .iter f since [] since)] k ≠ none) (m := fun k => if k = nm then (w.heap.size, 1) else m k) nm 0 0 0 (by simp [upds, upd])
  simpa using this
 split at hs
 . rename_i l hx
   split at hs
   case h_2 => cases hs
   rename_i es clk hl
   simp only [sE_, Prod.mk.injEq] at hs
   obtain ⟨rfl, rfl⟩ := hs
   rw [hx] at hxv
   obtain ⟨h0, ar, g1, g2⟩ := h.heap.obj _ _ hl
   generalize hxe : a.eval x = vx at hxv
   cases hxv with
   | mp _ hul =>
   rw [hx]
   exact key _ _ clk (.mp l hul) (by rw [hxe]; simp [Instr.range, run_underlying hmt, a7b g1])
 . rename_i hx
   simp only [sE_, Prod.mk.injEq] at hs
   obtain ⟨rfl, rfl⟩ := hs
   rw [hx] at hxv
   generalize hxe : a.eval x = vx at hxv
   cases hxv with
   | nilm => exact key _ _ 0 .nilm (by rw [hxe]; simp [Instr.range, run_underlying hmt])
 . cases hs
def d8f (H : Heap) (it : FV) (str : Bool) : Option (List (Loc × FO) × FV) := match it, str with
 | .ptr l 0 0 0, false => match H l with
   | some (.iter .nilm _ _ _) => some ([], .tup [.bool false])
   | some (.iter (.mp k) since seen last) => match H k with
     | some (.map es clk) => if !seen.isEmpty && !es.isEmpty && es.all (fun e => decide (last <= e.2.2)) then none else
      match es.filter fun e => !seen.contains e.2.2 with
      | [] => some ([], .tup [.bool false])
      | [e] => if e.2.2 < since then some ([(l, .iter (.mp k) since (seen ++ [e.2.2]) clk)], .tup [.bool true, e.1, e.2.1]) else none
      | _ => none
     | _ => none
   | _ => none
 | _, _ => none
theorem REs.filter {es : List (FV × FV × Nat)} {xs : List MapEntry} (h : REs w F U m es xs) (p : Nat -> Bool) : REs w F U m (es.filter fun e => p e.2.2) (xs.filter fun e => p e.born) := by
 induction h with
 | nil => exact .nil
 | cons e x es xs h hs ih =>
   simp only [List.filter_cons, h.born]
   split
   . exact .cons _ _ _ _ h ih
   . exact ih
theorem REs.all {es : List (FV × FV × Nat)} {xs : List MapEntry} (h : REs w F U m es xs) (p : Nat -> Bool) : (xs.all fun e => p e.born) = es.all fun e => p e.2.2 := by
 induction h with
 | nil => rfl
 | cons e x es xs h hs ih => simp only [List.all_cons, h.born, ih]
theorem REs.isEmpty {es : List (FV × FV × Nat)} {xs : List MapEntry} (h : REs w F U m es xs) : xs.isEmpty = es.isEmpty := by cases h <;> rfl
theorem d8e {it : Operand} {str : Bool} {us : List (Loc × FO)} {v : FV} (hs : d8f s.H (rv s it) str = some (us, v)) (ho : o.op = .next it str) : WOk P s o us v := by
 intro X F m a w h
 unfold d8f at hs
 split at hs
 case h_2 => cases hs
 rename_i l hx
 have hxv := a3a h it
 rw [hx] at hxv
 generalize hxe : a.eval it = vx at hxv
 cases hxv
 have over : ∀ {us v}, some (([] : List (Loc × FO)), FV.tup [.bool false]) = some (us, v) -> (Instr.next (a.eval it) false o.type).run P w = .ok (.tuple #[.bool false]) w ->
  ∃ (m' : Loc -> Nat × Nat) (u : Value) (w' : World), Ran P o a w u w' /\ RelX X F m' { s with H := upds s.H us } a w' /\ RF w' F (fun l => upds s.H us l ≠ none) m' v u := by
  intro us v hs hrun
  simp only [sE_, Prod.mk.injEq] at hs
  obtain ⟨rfl, rfl⟩ := hs
  exact ⟨m, .tuple #[.bool false], w, .inl (by simp [execOp, ho, hrun]), h, by simpa using RF.tup _ _ (.cons _ _ _ _ (.bool false) .nil)⟩
 split at hs
 . rename_i since seen last hl
   obtain ⟨h0, q, g1, g2⟩ := h.heap.obj _ _ hl
   cases g1
   refine over hs ?_
   rw [hxe]
   simp [Instr.next, b1i g2]
 . rename_i k since seen last hl
   obtain ⟨h0, q, g1, g2⟩ := h.heap.obj _ _ hl
   cases g1 with
   | mp _ huk =>
   split at hs
   case h_2 => cases hs
   rename_i es clk hk
   obtain ⟨hk0, ar, k1, k2⟩ := h.heap.obj _ _ hk
   split at hs
   . cases hs
   rename_i hcond
   have e0 : (!seen.toArray.isEmpty && !ar.isEmpty && ar.all (fun e => decide (e.born ≥ last))) = false := by
    have e1 : ar.isEmpty = es.isEmpty := by rw [<- k2.isEmpty]; simp
    have e2 : ar.all (fun e => decide (e.born ≥ last)) = es.all (fun e => decide (last <= e.2.2)) := by
     rw [<- k2.all (fun b => decide (last <= b)), Array.all_toList]
    rw [e1, e2]
    simpa using hcond
   have e3 : (ar.filter fun e => !seen.toArray.contains e.born).toList = ar.toList.filter fun e => !seen.contains e.born := by
    rw [Array.toList_filter]
    simp
   have k3 := k2.filter (fun b => !seen.contains b)
   rw [<- e3] at k3
   generalize hleft : (ar.filter fun e => !seen.toArray.contains e.born) = left at k3
   split at hs
   . rename_i hf
     rw [hf] at k3
     have hl0 : left = #[] := by
      apply Array.ext'
      cases hq : left.toList with
      | nil => rfl
      | cons _ _ => rw [hq] at k3; cases k3
     refine over hs ?_
     rw [hxe]
     simp only [Instr.next, Nat.zero_mul, Nat.add_zero, Sem.run_bind, b1i g2, Result.andThen_ok, a7b k1, e0, hleft, hl0]
     simp [Question.forced]
   . rename_i e hf
     rw [hf] at k3
     obtain ⟨x, hxl, hre⟩ : ∃ x, left.toList = [x] /\ RE w F (fun l => s.H l ≠ none) m e x := by
      cases hq : left.toList with
      | nil => rw [hq] at k3; cases k3
      | cons x xs => rw [hq] at k3; cases k3 with
        | cons _ _ _ _ p q => cases q; exact ⟨x, rfl, p⟩
     have hl1 : left = #[x] := by apply Array.ext'; rw [hxl]
     split at hs
     case isFalse => cases hs
     rename_i hborn
     simp only [sE_, Prod.mk.injEq] at hs
     obtain ⟨rfl, rfl⟩ := hs
     have hb : x.born < since := by rw [hre.born]; exact hborn
     have hb' : ¬ since <= x.born := by omega
     have hT := h.turn (o := .iter (.mp k) since (seen ++ [e.2.2]) clk) (ob := .mapIter (some (m k).1) since (seen.toArray.push x.born) clk) hl (by simp) h0 (by simp) g2 (fun w' q1 q2 => by
      have hne : ∀ b, F b -> w'.heap[b]? = w.heap[b]? := fun b hb => q2 b fun e => (h.heap.old l ⟨_, hl, by simp, h0⟩).2 (e ▸ hb)
      refine ⟨h0, some (m k).1, .mp k (by unfold upd; split <;> simp [huk]), ?_⟩
      rw [q1, <- hre.born]
      simp)
     have hrun : (Instr.next (.pointer (some ⟨(m l).1, 0, none⟩)) false o.type).run P w = .ok (.tuple #[.bool true, x.key, x.val]) { w with heap := w.heap.setIfInBounds (m l).1 (.mapIter (some (m k).1) since (seen.toArray.push x.born) clk) } := by
      simp only [Instr.next, Sem.run_bind, b1i g2, Result.andThen_ok, a7b k1, e0, hleft, hl1]
      simp [Question.forced, hb, hb', c3t _ g2]
     refine ⟨m, .tuple #[.bool true, x.key, x.val], _, .inl (by simp only [execOp, ho, hxe]; simp only [Nat.zero_mul, Nat.add_zero, Sem.run_bind, hrun]; rfl), hT, ?_⟩
     have hT' := hT
     have hbl := fun b (hb : F b) => (MapKept.heap_set (o' := .mapIter (some (m k).1) since (seen.toArray.push x.born) clk) g2).2 b fun e => (h.heap.old l ⟨_, hl, by simp, h0⟩).2 (e ▸ hb)
     have hU : ∀ k', s.H k' ≠ none -> upds s.H [(l, .iter (.mp k) since (seen ++ [e.2.2]) clk)] k' ≠ none := fun k' hk' => d1f _ hk'
     have := RFs.cons _ _ _ _ (RF.bool (w := { w with heap := w.heap.setIfInBounds (m l).1 (.mapIter (some (m k).1) since (seen.toArray.push x.born) clk) }) (F := F) (U := fun k' => upds s.H [(l, .iter (.mp k) since (seen ++ [e.2.2]) clk)] k' ≠ none) (m := m) true)
      (.cons _ _ _ _ (hre.key.keep (fun _ h => h) hbl hU (fun _ _ => rfl)) (.cons _ _ _ _ (hre.val.keep (fun _ h => h) hbl hU (fun _ _ => rfl)) .nil))
     simpa using RF.tup _ _ this
   . cases hs
 . cases hs
end
section
variable {P : Program} {X : Ctx} {c : Cfg} {w w' : World} {F F' : Nat -> Prop} {U : Loc -> Prop} {m m' : Loc -> Nat × Nat} {s s' : Fs} {a a' : Act} {o : Oper} {H : Heap}
def srcA (H : Heap) (sz : Nat) : FV -> Option (List (List FV))
 | .list sz' xs => if sz' = sz then some xs else none
 | .nils => some []
 | .emp => some []
 | .sl l sz' off len => match H l with
   | some (.cells _ sz'' xs) => if decide (sz' = sz) && (decide (sz'' = sz) && decide (off + len <= xs.length)) then some ((xs.drop off).take len) else none
   | _ => none
 | _ => none
theorem a8t {α : Type} {sz : Nat} : ∀ (n : Nat) (xs : List (List α)), (∀ x ∈ xs, x.length = sz) -> (xs.drop n).flatten = xs.flatten.drop (n * sz)
 | 0, xs, _ => by simp
 | n + 1, [], _ => by simp
 | n + 1, y :: ys, hl => by
   have hy := hl y (by simp)
   rw [List.drop_succ_cons, a8t n ys (fun x hx => hl x (by simp [hx])), List.flatten_cons, Nat.add_mul, Nat.one_mul, Nat.add_comm, <- List.drop_drop]
   rw [show (y ++ ys.flatten).drop sz = ys.flatten by rw [<- hy]; simp]
theorem a6a {α : Type} {sz : Nat} : ∀ (n : Nat) (xs : List (List α)), (∀ x ∈ xs, x.length = sz) -> (xs.take n).flatten = xs.flatten.take (n * sz)
 | 0, xs, _ => by simp
 | n + 1, [], _ => by simp
 | n + 1, y :: ys, hl => by
   have hy := hl y (by simp)
   rw [List.take_succ_cons, List.flatten_cons, a6a n ys (fun x hx => hl x (by simp [hx])), List.flatten_cons, Nat.add_mul, Nat.one_mul, Nat.add_comm, <- hy, List.take_length_add_append]
theorem e5s (h : HeapR w F m H) {tx e' : TypeId} (hk : P.underlying tx = some (.slice e')) {sz : Nat} {x : FV} {v : Value} {rows : List (List FV)} (hs : srcA H sz x = some rows) (hc : rows.flatten.all FV.cellV = true) (hx : RF w F (fun l => H l ≠ none) m x v) :
 (∀ r ∈ rows, r.length = sz) /\ ∃ news, Src P sz tx v rows.length news w /\ RFs w F (fun l => H l ≠ none) m rows.flatten news := by
 unfold srcA at hs
 split at hs
 . rename_i sz1 xs
   split at hs
   case isFalse => cases hs
   rename_i he
   obtain rfl : xs = rows := sI_ hs
   cases hx with
   | list _ _ A cap vs hl hcap hm hvs =>
   rw [he] at hl
   have hlen : vs.length = xs.length * sz := by rw [<- hvs.length]; exact a5b _ xs hl
   refine ⟨hl, vs, ?_, hvs⟩
   cases hr : xs with
   | nil =>
     subst hr
     have : vs = [] := eN_ (by simpa using hlen)
     subst this
     cases A with
     | none => exact Src.ofNil w hk cap
     | some a => exact Src.ofSlice w hk a 0 cap [] (by simp) (by simp) (by simp)
   | cons r rs =>
     obtain ⟨a, rfl, hF, hcell⟩ := hm (by rw [hr]; simp)
     rw [<- hr]
     exact Src.ofSlice w hk a xs.length cap vs hlen hcell (hvs.one hc)
 . obtain rfl := sI_ hs
   cases hx
   exact ⟨by simp, [], Src.ofNil w hk 0, .nil⟩
 . obtain rfl := sI_ hs
   cases hx with
   | emp A =>
   refine ⟨by simp, [], ?_, .nil⟩
   cases A with
   | none => exact Src.ofNil w hk 0
   | some a => exact Src.ofSlice w hk a 0 0 [] (by simp) (by simp) (by simp)
 . rename_i l sz' off len
   split at hs
   case h_2 => cases hs
   rename_i T sz'' xs hl
   split at hs
   case isFalse => cases hs
   rename_i hcond
   simp only [bA_, dE_] at hcond
   obtain ⟨e1, e2, hle⟩ := hcond
   rw [e1] at hx
   rw [e2] at hl
   clear e1 e2
   obtain rfl := sI_ hs
   have hrl : ((xs.drop off).take len).length = len := by simp; omega
   rcases h.obj _ _ hl with ⟨rfl, h00⟩ | ⟨h0, cur, g1, g2, g3, g4, g5⟩
   . have hl0 : len = 0 := by simp at hle; omega
     subst hl0
     refine ⟨by simp, [], ?_, by simpa using RFs.nil⟩
     rw [hrl]
     cases hx with
     | sl _ _ _ _ cap o hu hcap ho hs => exact Src.ofSlice w hk _ 0 cap [] (by simp) (by simp) (by simp)
     | sl0 _ _ _ A =>
       cases A with
       | none => exact Src.ofNil w hk 0
       | some a => exact Src.ofSlice w hk a 0 0 [] (by simp) (by simp) (by simp)
   . have hall : ∀ r ∈ (xs.drop off).take len, r.length = sz := fun x hx => g3 x (List.mem_of_mem_drop (List.mem_of_mem_take hx))
     have hpart := (g5.drop (off * sz)).take (len * sz)
     rw [<- a8t off xs g3, <- a6a len _ (fun x hx => g3 x (List.mem_of_mem_drop hx))] at hpart
     refine ⟨hall, _, ?_, hpart⟩
     rw [hrl]
     have hvl : (((cur.toList.take (xs.length * sz)).drop (off * sz)).take (len * sz)).length = len * sz := by
      rw [<- hpart.length, a5b sz _ hall, hrl]
     cases hx with
     | sl _ _ _ _ cap o hu hcap ho hs =>
       refine Src.ofSlice w hk _ len cap _ hvl (fun j u hj => ?_) (hpart.one hc)
       have hpos : 0 < len := by
        rcases Nat.eq_zero_or_pos len with e | e
        . subst e; simp at hj
        . exact e
       have ho' : o = off * sz := ho.resolve_left (by omega)
       rw [List.getElem?_take] at hj
       split at hj
       . rw [List.getElem?_drop, List.getElem?_take] at hj
         split at hj
         . rw [add0, a6z g1, ho']; simpa using hj
         . cases hj
       . cases hj
     | sl0 _ _ _ _ hu h00 => exact absurd h00 h0
 . cases hs
theorem RelX.extend (h : RelX X F m s a w) {l : Loc} {T : TypeId} {sz len : Nat} {xs rows : List (List FV)} {vs : List Value} (hl : s.H l = some (.cells T sz xs)) (h0 : (m l).2 ≠ 0) (hle : len <= xs.length) (hfit : (len + rows.length) * sz <= (m l).2)
 (hrow : ∀ r ∈ rows, r.length = sz) (hv : RFs w F (fun k => s.H k ≠ none) m rows.flatten vs) (h1 : ∀ v ∈ vs, v.oneCell' = true) :
 ∃ w', (storeCells ⟨(m l).1, len * sz, none⟩ vs).run P w = .ok () w' /\ RelX X F m { s with H := upd s.H l (.cells T sz (xs.take len ++ rows)) } a w' := by
 have hvl : vs.length = rows.length * sz := by rw [<- hv.length]; exact a5b sz rows hrow
 rcases h.heap.obj l _ hl with ⟨_, h00⟩ | ⟨_, cur, g1, g2, g3, g4, g5⟩
 . exact absurd h00 h0
 have hmul : len * sz <= xs.length * sz := Nat.mul_le_mul_right _ hle
 rw [Nat.add_mul] at hfit
 have hst := run_storeCells_at P (m l).1 (len * sz) T vs 0 cur w g1 (by omega) h1
 simp only [Nat.add_zero] at hst
 refine ⟨_, hst, ?_⟩
 have hlive : Live s.H m l := ⟨_, hl, by simp, h0⟩
 have hU : ∀ k, s.H k ≠ none -> upd s.H l (.cells T sz (xs.take len ++ rows)) k ≠ none := fun k hk => by unfold upd; split <;> simp [hk]
 have hFne : ∀ b, F b -> (w.setRow (m l).1 (cur.toList.take (len * sz) ++ vs ++ cur.toList.drop (len * sz + vs.length)).toArray).heap[b]? = w.heap[b]? := fun b hb =>
  setRow_other w _ b _ (fun e => (h.heap.old l hlive).2 (e ▸ hb))
 refine h.write hl hlive (by simp) (by simp [World.setRow]) (fun b _ hb => setRow_other w _ b _ hb) rfl rfl rfl (.inr ⟨h0, _, setRow_heap w _ cur _ T _ g1, ?_, ?_, ?_, ?_⟩)
 . simp; omega
 . intro x hx
   rcases List.mem_append.1 hx with hx | hx
   . exact g3 x (List.mem_of_mem_take hx)
   . exact hrow x hx
 . simp only [List.length_append, List.length_take, Nat.min_eq_left hle, Nat.add_mul, List.size_toArray, List.length_drop, Array.length_toList]
   omega
 . rw [List.flatten_append, a6a len xs g3]
   have e3 : ((cur.toList.take (len * sz) ++ vs ++ cur.toList.drop (len * sz + vs.length)).toArray.toList.take ((xs.take len ++ rows).length * sz)) = (cur.toList.take (xs.length * sz)).take (len * sz) ++ vs := by
    rw [List.toList_toArray, List.take_take, Nat.min_eq_left hmul]
    have e4 : (xs.take len ++ rows).length * sz = (cur.toList.take (len * sz) ++ vs).length := by
     simp only [List.length_append, List.length_take, Nat.min_eq_left hle, Nat.add_mul, Array.length_toList]
     omega
    rw [e4, List.take_left']
    rfl
   rw [e3]
   exact ((g5.keep (F' := F) (fun _ h => h) hFne hU (fun _ _ => rfl) (m' := m)).take _).append (hv.keep (fun _ h => h) hFne hU (fun _ _ => rfl))
def wApp (P : Program) (H : Heap) (nm : Loc) (t tx : TypeId) (x y : FV) : Option (List (Loc × FO) × FV) := match slT P t, slT P tx with
 | some (e, sz), some _ => match byT P e, a4l P e with
   | some by_, some z => if decide (z.length = sz) && decide (0 < sz) then (match srcA H sz y with
     | some rows => if rows.flatten.all FV.cellV then (match x with
       | .nils => if rows.isEmpty then some ([], .nils) else if decide ((rows.length + rows.length / 4 + 192) * by_ <= 140737488355328) && (decide (rows.length <= 4611686018427387904) && (H nm).isNone) then some ([(nm, .cells e sz rows)], .sl nm sz 0 rows.length) else none
       | .emp => if decide ((rows.length + rows.length / 4 + 192) * by_ <= 140737488355328) && (decide (rows.length <= 4611686018427387904) && (H nm).isNone) then some ([(nm, .cells e sz rows)], .sl nm sz 0 rows.length) else none
       | .sl l sz' 0 len => match H l with
         | some (.cells T sz'' xs) => if (decide (sz' = sz) && decide (sz'' = sz)) && (decide (T = e) && (decide (len <= xs.length) && (decide ((len + rows.length + (len + rows.length) / 4 + 192) * by_ <= 140737488355328) && (decide (len + rows.length <= 4611686018427387904) && (H nm).isNone)))) then
          some ([(l, .dead), (nm, .cells e sz (xs.take len ++ rows))], .sl nm sz 0 (len + rows.length)) else none
         | _ => none
       | _ => none) else none
     | none => none) else none
   | _, _ => none
 | _, _ => none
theorem RelX.drew (h : RelX X F m s a w) : RelX X F m s a w.drew := h.world (nr_ _) (fun _ _ => rfl) rfl rfl rfl
theorem RF.drewn {x : FV} {v : Value} (h : RF w F U m x v) : RF w.drew F U m x v := h.keep (fun _ h => h) (fun _ _ => rfl) (fun _ h => h) (fun _ _ => rfl)
theorem RFs.drewn {x : List FV} {v : List Value} (h : RFs w F U m x v) : RFs w.drew F U m x v := h.keep (fun _ h => h) (fun _ _ => rfl) (fun _ h => h) (fun _ _ => rfl)
theorem c8x (h : RelX X F m s a w) {t tx ty e : TypeId} {i : TypeInfo} {z : List FV} {nm : Loc} {sz len cap : Nat} {base : Option Addr} {olds news : List Value} {orows rows : List (List FV)} {y : Value} (hu : P.underlying t = some (.slice e)) (hi : P.info? e = some i) (hsz : i.size = sz)
 (hzc : a4l P e = some z) (hzsz : z.length = sz) (h0 : 0 < sz) (hnm : s.H nm = none) (hold : (Builtin.firstCells i.size len (.slice base len cap)).run P w.drew = .ok olds.toArray w.drew) (hsrc : Src P i.size tx y rows.length news w) (hg : cap < len + rows.length) (hol : orows.length = len)
 (h62 : len + rows.length <= 4611686018427387904) (hb : (len + rows.length + (len + rows.length) / 4 + 192) * i.bytes <= 140737488355328) (hr : RFs w F (fun k => s.H k ≠ none) m (orows ++ rows).flatten (olds ++ news)) (hrow : ∀ r ∈ orows ++ rows, r.length = sz) :
 ∃ m' cap' w', (Builtin.append_ #[t, tx] ty #[.slice base len cap, y]).run P w = .ok (.slice (some ⟨w.heap.size, 0, none⟩) (len + rows.length) cap') w' /\ RelX X F m' { s with H := upd s.H nm (.cells e sz (orows ++ rows)) } a w' /\
   RF w' F (fun k => upd s.H nm (.cells e sz (orows ++ rows)) k ≠ none) m' (.sl nm sz 0 (len + rows.length)) (.slice (some ⟨w.heap.size, 0, none⟩) (len + rows.length) cap') := by
 obtain ⟨zi, hzz⟩ : ∃ zi, i.zero = some zi := by
  unfold a4l at hzc
  rw [hi] at hzc
  simp only at hzc
  split at hzc
  . rename_i zi hzi; exact ⟨zi, hzi⟩
  . cases hzc
 have hzl : z.length = zi.cells.size := by
  unfold a4l at hzc
  rw [hi] at hzc
  simp only [hzz, sE_] at hzc
  rw [<- hzc]; simp
 have hb2 : (len + rows.length) * i.bytes <= (len + rows.length + (len + rows.length) / 4 + 192) * i.bytes := Nat.mul_le_mul_right _ (by omega)
 have hrun := run_append_grow_src (P := P) w t tx ty e i zi hu hi hzz base len cap olds hold y rows.length news hsrc hg (by omega) (growslice_fits hg (by omega))
 have hge := grownCap_ge w (len + rows.length) cap e
 have hfl : (olds ++ news).length = (len + rows.length) * sz := by rw [<- hr.length, a5b sz _ hrow]; simp [hol]
 have hpos : 0 < len + rows.length := by omega
 have hcs : ((olds ++ news).toArray ++ Builtin.zeroCells zi.cells (grownCap w (len + rows.length) cap e - (len + rows.length))).size = (len + rows.length) * sz + (grownCap w (len + rows.length) cap e - (len + rows.length)) * zi.cells.size := by
  rw [Array.size_append, size_zeroCells, List.size_toArray, hfl]
 have hmulpos : 0 < (len + rows.length) * sz := Nat.mul_pos hpos h0
 have hal := h.drew.alloc (l := nm) (cells := (olds ++ news).toArray ++ Builtin.zeroCells zi.cells (grownCap w (len + rows.length) cap e - (len + rows.length))) (T := e) (rows := orows ++ rows) (sz := sz) hnm (by
  rw [Array.toList_append, List.toList_toArray, List.length_append, hol, <- hfl, List.take_left']
  . exact hr.drewn
  . rfl) hrow (by rw [hcs, List.length_append, hol]; omega) (by omega)
 refine ⟨_, _, _, hrun, hal, ?_⟩
 have := RF.sl (w := w.drew.alloc (.cells ((olds ++ news).toArray ++ Builtin.zeroCells zi.cells (grownCap w (len + rows.length) cap e - (len + rows.length))) e (0, 0))) (F := F) (U := fun k => upd s.H nm (.cells e sz (orows ++ rows)) k ≠ none)
  (m := fun k => if k = nm then (w.drew.heap.size, ((olds ++ news).toArray ++ Builtin.zeroCells zi.cells (grownCap w (len + rows.length) cap e - (len + rows.length))).size) else m k) nm sz 0 (len + rows.length) (grownCap w (len + rows.length) cap e) 0 (by simp [upd]) hge (.inr (by simp)) (by
   simp only [if_true, hcs, Nat.zero_add, <- hzl, hzsz, <- Nat.add_mul]
   exact Nat.mul_le_mul_right _ (by omega))
 simpa using this
theorem b3i (size c : Nat) (A : Option Addr) (w' : World) : (Builtin.firstCells size 0 (.slice A 0 c)).run P w' = .ok #[] w' := by
 cases A with
 | none => simp [Builtin.firstCells]
 | some a => exact run_firstCells_some w' size 0 a 0 c [] (by simp) (by simp)
theorem c9k {H : Heap} {l l' : Loc} {o o' : FO} (h : l ≠ l') : upd (upd H l o) l' o' = upd (upd H l' o') l o := by
 funext k
 unfold upd
 by_cases e1 : k = l' <;> by_cases e2 : k = l
 . exact absurd (e2.symm.trans e1) h
 . simp [e1, e2]
   intro e; exact absurd e.symm h
 . simp [e1, e2]
   intro e; exact absurd e h
 . simp [e1, e2]
theorem b0e {H : Heap} {l : Loc} {o : FO} (h : H l = some o) : upd H l o = H := by
 funext k
 unfold upd
 split
 . rename_i e; rw [e, h]
 . rfl
theorem RelX.cut (h : RelX X F m s a w) {l : Loc} {T : TypeId} {sz len : Nat} {xs : List (List FV)} (hl : s.H l = some (.cells T sz xs)) (hle : len <= xs.length) : RelX X F m { s with H := upd s.H l (.cells T sz (xs.take len)) } a w := by
 by_cases h0 : (m l).2 = 0
 . rcases h.heap.obj l _ hl with ⟨rfl, _⟩ | ⟨h1, _⟩
   . rw [List.take_nil, b0e hl]; exact h
   . exact absurd h0 h1
 . have hfit : (len + ([] : List (List FV)).length) * sz <= (m l).2 := by
    rcases h.heap.obj l _ hl with ⟨_, h00⟩ | ⟨_, cur, _, g2, _, g4, _⟩
    . exact absurd h00 h0
    . rw [<- g2]
      exact Nat.le_trans (Nat.mul_le_mul_right _ (by simpa using hle)) g4
   obtain ⟨w', g1, g2⟩ := h.extend (P := default) (rows := []) (vs := []) hl h0 hle hfit (by simp) .nil (by simp)
   have : w' = w := by
    simp only [storeCells, Sem.run_pure, Result.ok.injEq, true_and] at g1
    exact g1.symm
   subst this
   simpa using g2
theorem e4t {nm : Loc} {t tx : TypeId} {x y : Operand} {us : List (Loc × FO)} {v : FV} (hs : wApp P s.H nm t tx (rv s x) (rv s y) = some (us, v)) (ho : o.op = .call { callee := .builtin .append, args := ⟨[x, y]⟩, argTypes := ⟨[t, tx]⟩ }) : WOk P s o us v := by
 intro X F m a w h
 unfold wApp at hs
 split at hs
 case h_2 => cases hs
 rename_i e sz ex ht htx
 obtain ⟨e2, sz2⟩ := ex
 obtain ⟨hu, hz⟩ := a4n ht
 obtain ⟨hux, _⟩ := a4n htx
 split at hs
 case h_2 => cases hs
 rename_i by_ z hby hzc
 obtain ⟨i, hi, rfl⟩ := c8r hby
 have hisz := d8t hz hi
 split at hs
 case isFalse => cases hs
 rename_i hc
 simp only [bA_, dE_] at hc
 obtain ⟨hzsz, h0⟩ := hc
 split at hs
 case h_2 => cases hs
 rename_i rows hrows
 split at hs
 case isFalse => cases hs
 rename_i hcell
 obtain ⟨hrl, news, hsrc, hnews⟩ := e5s h.heap hux hrows hcell (a3a h y)
 have hxv := a3a h x
 have hexec : ∀ u w', (Builtin.append_ #[t, tx] o.type #[a.eval x, a.eval y]).run P w = .ok u w' -> Ran P o a w u w' := fun u w' hr => .inl (by simp [execOp, ho, resolve, invoke, builtin, hr])
 have hsrc' : Src P i.size tx (a.eval y) rows.length news w := by rw [hisz]; exact hsrc
 have nothing : ∀ {A : Option Addr} {len cap : Nat}, len <= cap -> rows.length = 0 -> (Builtin.append_ #[t, tx] o.type #[.slice A len cap, a.eval y]).run P w = .ok (.slice A len cap) w := fun {A len cap} hle hr0 => by
  have hn0 : news = [] := by
   have hr : rows = [] := eN_ hr0
   rw [hr] at hnews
   cases hnews; rfl
  rw [hr0, hn0] at hsrc'
  exact run_append_nothing w t tx o.type e i hu hi A len cap hle _ hsrc'
 have fresh : s.H nm = none -> ∀ {A : Option Addr}, a.eval x = .slice A 0 0 -> rows.length ≠ 0 -> (rows.length + rows.length / 4 + 192) * i.bytes <= 140737488355328 -> rows.length <= 4611686018427387904 ->
  ∃ (m' : Loc -> Nat × Nat) (u : Value) (w' : World), Ran P o a w u w' /\ RelX X F m' { s with H := upds s.H [(nm, .cells e sz rows)] } a w' /\ RF w' F (fun l => upds s.H [(nm, .cells e sz rows)] l ≠ none) m' (.sl nm sz 0 rows.length) u := by
  intro hnm A hA hne hb h62
  obtain ⟨m', cap', w', g1, g2, g3⟩ := c8x (base := A) (len := 0) (cap := 0) (olds := []) (orows := []) (ty := o.type) h hu hi hisz hzc hzsz h0 hnm (b3i _ _ _ _) hsrc' (by omega) rfl (by simpa using h62) (by simpa using hb) (by simpa using hnews) (by simpa using hrl)
  simp only [List.nil_append, Nat.zero_add] at g1 g2 g3
  exact ⟨m', _, w', hexec _ _ (by rw [hA]; exact g1), g2, g3⟩
 split at hs
 . rename_i hx
   rw [hx] at hxv
   generalize hxe : a.eval x = vx at hxv
   cases hxv
   split at hs
   . rename_i hr
     simp only [sE_, Prod.mk.injEq] at hs
     obtain ⟨rfl, rfl⟩ := hs
     exact ⟨m, _, w, hexec _ _ (by rw [hxe]; exact nothing (nr_ _) (by simpa using hr)), h, .nils⟩
   . rename_i hr
     split at hs
     case isFalse => cases hs
     rename_i hb
     simp only [bA_, dE_, Option.isNone_iff_eq_none] at hb
     simp only [sE_, Prod.mk.injEq] at hs
     obtain ⟨rfl, rfl⟩ := hs
     exact fresh hb.2.2 hxe (by simpa using hr) hb.1 hb.2.1
 . rename_i hx
   rw [hx] at hxv
   generalize hxe : a.eval x = vx at hxv
   cases hxv with
   | emp A =>
   split at hs
   case isFalse => cases hs
   rename_i hb
   simp only [bA_, dE_, Option.isNone_iff_eq_none] at hb
   simp only [sE_, Prod.mk.injEq] at hs
   obtain ⟨rfl, rfl⟩ := hs
   by_cases hr : rows.length = 0
   . have hrn : rows = [] := eN_ hr
     subst hrn
     exact ⟨_, _, w, hexec _ _ (by rw [hxe]; exact nothing (nr_ _) hr), h.ghost0 (T := e) (sz := sz) hb.2.2, .sl0 nm sz 0 A (by simp [upds, upd]) (by simp)⟩
   . exact fresh hb.2.2 hxe hr hb.1 hb.2.1
 . rename_i l sz' len hx
   split at hs
   case h_2 => cases hs
   rename_i T sz'' xs hl
   split at hs
   case isFalse => cases hs
   rename_i hc
   simp only [bA_, dE_, Option.isNone_iff_eq_none] at hc
   obtain ⟨⟨e1, e2⟩, e3, hle, hb, h62, hnm⟩ := hc
   simp only [sE_, Prod.mk.injEq] at hs
   obtain ⟨rfl, rfl⟩ := hs
   rw [hx, e1] at hxv
   rw [e2, e3] at hl
   clear e1 e2 e3
   have hll : l ≠ nm := fun e => by rw [e, hnm] at hl; cases hl
   have hH : ∀ q q', upds s.H [(l, .dead), (nm, .cells e sz q)] = upd (upd (upd s.H l q') l .dead) nm (.cells e sz q) := fun q q' => by
    simp only [upds, List.foldl_cons, List.foldl_nil]
    congr 1
    funext k
    unfold upd
    split <;> rfl
   have still : ∀ {A : Option Addr} {cap : Nat}, rows = [] -> a.eval x = .slice A len cap -> len <= cap -> Ran P o a w (.slice A len cap) w /\ RelX X F (fun k => if k = nm then m l else m k) { s with H := upds s.H [(l, .dead), (nm, .cells e sz (xs.take len ++ []))] } a w := by
    intro A cap hr hA hle'
    refine ⟨hexec _ _ (by rw [hA]; exact nothing hle' (by rw [hr]; rfl)), ?_⟩
    rw [hH _ (.cells e sz (xs.take len)), List.append_nil]
    exact (h.cut hl hle).rename (l := l) (l' := nm) (T := e) (sz := sz) (xs := xs.take len) (by simp [upd]) (by simp [upd, hnm]; intro e; exact absurd e.symm hll)
   have growO : ∀ {A : Option Addr} {cap : Nat} {olds : List Value}, a.eval x = .slice A len cap -> cap < len + rows.length -> (Builtin.firstCells i.size len (.slice A len cap)).run P w.drew = .ok olds.toArray w.drew -> RFs w F (fun k => s.H k ≠ none) m (xs.take len).flatten olds ->
    (∀ r ∈ xs.take len, r.length = sz) ->
    ∃ (m' : Loc -> Nat × Nat) (u : Value) (w' : World), Ran P o a w u w' /\ RelX X F m' { s with H := upds s.H [(l, .dead), (nm, .cells e sz (xs.take len ++ rows))] } a w' /\ RF w' F (fun k => upds s.H [(l, .dead), (nm, .cells e sz (xs.take len ++ rows))] k ≠ none) m' (.sl nm sz 0 (len + rows.length)) u := by
    intro A cap olds hA hg hold hor horl
    obtain ⟨m', cap', w', g1, g2, g3⟩ := c8x (base := A) (orows := xs.take len) (ty := o.type) h hu hi hisz hzc hzsz h0 hnm hold hsrc' hg (by simp; omega) h62 (by omega) (by rw [List.flatten_append]; exact hor.append hnews) (fun r hr => by
     rcases List.mem_append.1 hr with hr | hr
     . exact horl r hr
     . exact hrl r hr)
    have hcomm : upds s.H [(l, .dead), (nm, .cells e sz (xs.take len ++ rows))] = upd (upd s.H nm (.cells e sz (xs.take len ++ rows))) l .dead := c9k hll
    refine ⟨m', _, w', hexec _ _ (by rw [hA]; exact g1), g2.weaken ⟨rfl, fun t => .inr rfl, fun k => ?_⟩, g3.keep (fun _ h => h) (fun _ _ => rfl) (fun k hk => ?_) (fun _ _ => rfl)⟩
    . show upds s.H _ k = _ \/ upds s.H _ k = _
      rw [hcomm]
      by_cases e : k = l
      . right; simp [upd, e]
      . left; simp [upd, e]
    . rw [hcomm]
      unfold upd at hk ⊢
      split
      . simp
      . exact hk
   generalize hxe : a.eval x = vx at hxv
   cases hxv with
   | sl _ _ _ _ cap o' hul hcap hoff hfit =>
     by_cases hr0 : rows.length = 0
     . have hrn : rows = [] := eN_ hr0
       subst hrn
       obtain ⟨g1, g2⟩ := still rfl hxe hcap
       refine ⟨_, _, w, g1, g2, ?_⟩
       have := RF.sl (w := w) (F := F) (U := fun k => upds s.H [(l, .dead), (nm, .cells e sz (xs.take len ++ []))] k ≠ none) (m := fun k => if k = nm then m l else m k) nm sz 0 len cap o' (by simp [upds, upd]) hcap hoff (by simpa using hfit)
       simpa using this
     by_cases hroom : len + rows.length <= cap
     . have hcap0 : ¬ cap = 0 := by omega
       have hoff' : o' = 0 := by have := hoff.resolve_left hcap0; simpa using this
       subst hoff'
       have hm0 : (m l).2 ≠ 0 := by
        intro hz
        rw [hz] at hfit
        have : 0 < (0 + cap) * sz := Nat.mul_pos (by omega) h0
        omega
       obtain ⟨w', g1, g2⟩ := h.extend (P := P) (len := len) hl hm0 hle (by
        refine Nat.le_trans (Nat.mul_le_mul_right _ hroom) ?_
        simpa using hfit) hrl hnews hsrc.one
       have hrun : (Builtin.append_ #[t, tx] o.type #[.slice (some ⟨(m l).1, 0, none⟩) len cap, a.eval y]).run P w = .ok (.slice (some ⟨(m l).1, 0, none⟩) (len + rows.length) cap) w' := by
        have g1' := g1
        rw [<- hisz] at g1'
        rcases hsrc'.kind with ⟨e', hk⟩ | hk <;> simp [Builtin.append_, run_underlying hu, run_underlying hk, sizeOf, typeInfo, hi, hsrc'.len, hroom, hsrc'.cells, Addr.add_lit, g1']
       have hR := g2.rename (l := l) (l' := nm) (T := e) (sz := sz) (xs := xs.take len ++ rows) (by simp [upd]) (by simp [upd, hnm]; intro e; exact absurd e.symm hll)
       refine ⟨fun k => if k = nm then m l else m k, _, w', hexec _ _ (by rw [hxe]; exact hrun), ?_, ?_⟩
       . rw [hH _ (.cells e sz (xs.take len ++ rows))]
         exact hR
       . have := RF.sl (w := w') (F := F) (U := fun k => upds s.H [(l, .dead), (nm, .cells e sz (xs.take len ++ rows))] k ≠ none) (m := fun k => if k = nm then m l else m k) nm sz 0 (len + rows.length) cap 0 (by simp [upds, upd]) hroom (.inr (by simp)) (by simpa using hfit)
         simpa using this
     . by_cases hl0 : len = 0
       . subst hl0
         exact growO (olds := []) hxe (Nat.lt_of_not_le hroom) (b3i _ _ _ _) (by simpa using RFs.nil) (by simp)
       . have hoff' : o' = 0 := by have := hoff.resolve_left (by omega); simpa using this
         have hm0 : (m l).2 ≠ 0 := by
          intro hz
          rw [hz] at hfit
          have : 0 < (0 + cap) * sz := Nat.mul_pos (by omega) h0
          omega
         rcases h.heap.obj l _ hl with ⟨_, h00⟩ | ⟨_, cur, q1, q2, q3, q4, q5⟩
         . exact absurd h00 hm0
         have hmul : len * sz <= xs.length * sz := Nat.mul_le_mul_right _ hle
         refine growO (olds := cur.toList.take (len * sz)) hxe (Nat.lt_of_not_le hroom) (run_firstCells_some w.drew i.size len _ len cap _ (by rw [hisz]; simp; omega) fun j u hj => ?_) ?_ (fun r hr => q3 r (List.mem_of_mem_take hr))
         . rw [List.getElem?_take] at hj
           split at hj
           . rw [add0, hoff', Nat.zero_add]
             show w.cell? _ = _
             rw [a6z q1]
             simpa using hj
           . cases hj
         . have := q5.take (len * sz)
           rw [List.take_take, Nat.min_eq_left hmul, <- a6a len xs q3] at this
           exact this
   | sl0 _ _ _ A hul hm0 =>
     by_cases hr0 : rows.length = 0
     . have hrn : rows = [] := eN_ hr0
       subst hrn
       obtain ⟨g1, g2⟩ := still rfl hxe (nr_ _)
       refine ⟨_, _, w, g1, g2, ?_⟩
       have := RF.sl0 (w := w) (F := F) (U := fun k => upds s.H [(l, .dead), (nm, .cells e sz (xs.take 0 ++ []))] k ≠ none) (m := fun k => if k = nm then m l else m k) nm sz 0 A (by simp [upds, upd]) (by simpa using hm0)
       simpa using this
     . exact growO (olds := []) hxe (by omega) (b3i _ _ _ _) (by simpa using RFs.nil) (by simp)
 . cases hs
end
section
variable {P : Program} {X : Ctx} {c : Cfg} {w w' : World} {F F' : Nat -> Prop} {U : Loc -> Prop} {m m' : Loc -> Nat × Nat} {s s' : Fs} {a a' : Act} {o : Oper} {H : Heap}
theorem RelX.splice (h : RelX X F m s a w) {l : Loc} {T : TypeId} {sz off : Nat} {xs rows : List (List FV)} {vs : List Value} (hl : s.H l = some (.cells T sz xs)) (h0 : (m l).2 ≠ 0) (hle : off + rows.length <= xs.length)
 (hrow : ∀ r ∈ rows, r.length = sz) (hv : RFs w F (fun k => s.H k ≠ none) m rows.flatten vs) (h1 : ∀ v ∈ vs, v.oneCell' = true) :
 ∃ w', (storeCells ⟨(m l).1, off * sz, none⟩ vs).run P w = .ok () w' /\ RelX X F m { s with H := upd s.H l (.cells T sz (xs.take off ++ (rows ++ xs.drop (off + rows.length)))) } a w' := by
 have hvl : vs.length = rows.length * sz := by rw [<- hv.length]; exact a5b sz rows hrow
 rcases h.heap.obj l _ hl with ⟨_, h00⟩ | ⟨_, cur, g1, g2, g3, g4, g5⟩
 . exact absurd h00 h0
 have hmul : (off + rows.length) * sz <= xs.length * sz := Nat.mul_le_mul_right _ hle
 have hadd : (off + rows.length) * sz = off * sz + vs.length := by rw [Nat.add_mul, hvl]
 have hst := run_storeCells_at P (m l).1 (off * sz) T vs 0 cur w g1 (by omega) h1
 simp only [Nat.add_zero] at hst
 refine ⟨_, hst, ?_⟩
 have hlive : Live s.H m l := ⟨_, hl, by simp, h0⟩
 have hU : ∀ k, s.H k ≠ none -> upd s.H l (.cells T sz (xs.take off ++ (rows ++ xs.drop (off + rows.length)))) k ≠ none := fun k hk => by unfold upd; split <;> simp [hk]
 have hFne : ∀ b, F b -> (w.setRow (m l).1 (cur.toList.take (off * sz) ++ vs ++ cur.toList.drop (off * sz + vs.length)).toArray).heap[b]? = w.heap[b]? := fun b hb =>
  setRow_other w _ b _ (fun e => (h.heap.old l hlive).2 (e ▸ hb))
 have hnl : (xs.take off ++ (rows ++ xs.drop (off + rows.length))).length = xs.length := by simp; omega
 refine h.write hl hlive (by simp) (by simp [World.setRow]) (fun b _ hb => setRow_other w _ b _ hb) rfl rfl rfl (.inr ⟨h0, _, setRow_heap w _ cur _ T _ g1, ?_, ?_, ?_, ?_⟩)
 . simp; omega
 . intro x hx
   rcases List.mem_append.1 hx with hx | hx
   . exact g3 x (List.mem_of_mem_take hx)
   . rcases List.mem_append.1 hx with hx | hx
     . exact hrow x hx
     . exact g3 x (List.mem_of_mem_drop hx)
 . rw [hnl]
   simp only [List.size_toArray, List.length_append, List.length_take, List.length_drop, Array.length_toList]
   omega
 . rw [List.flatten_append, List.flatten_append, a6a off xs g3, a8t _ xs g3]
   have e3 : ((cur.toList.take (off * sz) ++ vs ++ cur.toList.drop (off * sz + vs.length)).toArray.toList.take ((xs.take off ++ (rows ++ xs.drop (off + rows.length))).length * sz)) =
    (cur.toList.take (xs.length * sz)).take (off * sz) ++ (vs ++ (cur.toList.take (xs.length * sz)).drop ((off + rows.length) * sz)) := by
    rw [hnl, List.toList_toArray, List.take_take, Nat.min_eq_left (by omega), List.append_assoc, List.take_append, tL_ (by simp; omega)]
    congr 1
    rw [List.take_append, tL_ (by simp; omega)]
    congr 1
    rw [hadd, List.drop_take, List.length_take, Nat.min_eq_left (by simp; omega)]
    congr 1
    omega
   rw [e3]
   have hk := g5.keep (F' := F) (fun _ h => h) hFne hU (fun _ _ => rfl) (m' := m)
   exact (hk.take _).append ((hv.keep (fun _ h => h) hFne hU (fun _ _ => rfl)).append (hk.drop _))
def c5k (P : Program) (H : Heap) (t : TypeId) (x : FV) : Option (List (Loc × FO) × FV) := match x with
 | .nilm => if hasT P t then some ([], .tup []) else none
 | .nils => if hasT P t then some ([], .tup []) else none
 | .emp => if hasT P t then some ([], .tup []) else none
 | .mp l => match H l, P.underlying t with
   | some (.map _ clk), some (.map _ _) => some ([(l, .map [] clk)], .tup [])
   | _, _ => none
 | .sl _ _ _ 0 => if hasT P t then some ([], .tup []) else none
 | .sl l sz off len => match H l, slT P t with
   | some (.cells T sz'' xs), some (e, sz') => match a4l P e with
     | some z => if (decide (sz' = sz) && decide (sz'' = sz)) && (decide (z.length = sz) && (decide (0 < sz) && (decide (off + len <= xs.length) && z.all FV.cellV))) then some ([(l, .cells T sz (xs.take off ++ (List.replicate len z ++ xs.drop (off + len))))], .tup []) else none
     | none => none
   | _, _ => none
 | _ => none
theorem d1a {t : TypeId} {x : Operand} {us : List (Loc × FO)} {v : FV} (hs : c5k P s.H t (rv s x) = some (us, v)) (ho : o.op = .call { callee := .builtin .clear, args := ⟨[x]⟩, argTypes := ⟨[t]⟩ }) : WOk P s o us v := by
 intro X F m a w h
 have hexec : ∀ w', (Builtin.clear_ #[t] o.type #[a.eval x]).run P w = .ok (.tuple #[]) w' -> Ran P o a w (.tuple #[]) w' := fun w' hr => .inl (by simp [execOp, ho, resolve, invoke, builtin, hr])
 have hxv := a3a h x
 have unit : ∀ w', RF w' F (fun l => upds s.H us l ≠ none) m (.tup []) (.tuple #[]) := fun w' => .tup [] [] .nil
 have none' : us = [] -> v = .tup [] -> (Builtin.clear_ #[t] o.type #[a.eval x]).run P w = .ok (.tuple #[]) w -> ∃ (m' : Loc -> Nat × Nat) (u : Value) (w' : World), Ran P o a w u w' /\ RelX X F m' { s with H := upds s.H us } a w' /\ RF w' F (fun l => upds s.H us l ≠ none) m' v u := by
  rintro rfl rfl hr
  exact ⟨m, _, w, hexec _ hr, h, unit w⟩
 unfold c5k at hs
 split at hs
 . rename_i hx
   split at hs
   case isFalse => cases hs
   rename_i ht
   obtain ⟨d, hd⟩ := Option.isSome_iff_exists.1 ht
   simp only [sE_, Prod.mk.injEq] at hs
   rw [hx] at hxv
   generalize hxe : a.eval x = vx at hxv
   cases hxv
   refine none' hs.1.symm hs.2.symm ?_
   rw [hxe]; simp [Builtin.clear_, run_underlying hd]
 . rename_i hx
   split at hs
   case isFalse => cases hs
   rename_i ht
   obtain ⟨d, hd⟩ := Option.isSome_iff_exists.1 ht
   simp only [sE_, Prod.mk.injEq] at hs
   rw [hx] at hxv
   generalize hxe : a.eval x = vx at hxv
   cases hxv
   refine none' hs.1.symm hs.2.symm ?_
   rw [hxe]; simp [Builtin.clear_, run_underlying hd]
 . rename_i hx
   split at hs
   case isFalse => cases hs
   rename_i ht
   obtain ⟨d, hd⟩ := Option.isSome_iff_exists.1 ht
   simp only [sE_, Prod.mk.injEq] at hs
   rw [hx] at hxv
   generalize hxe : a.eval x = vx at hxv
   cases hxv with
   | emp A =>
   refine none' hs.1.symm hs.2.symm ?_
   rw [hxe]; cases A <;> simp [Builtin.clear_, run_underlying hd]
 . rename_i l hx
   split at hs
   case h_2 => cases hs
   rename_i es clk k e hl hu
   simp only [sE_, Prod.mk.injEq] at hs
   obtain ⟨rfl, rfl⟩ := hs
   rw [hx] at hxv
   generalize hxe : a.eval x = vx at hxv
   cases hxv with
   | mp _ hul =>
   obtain ⟨h0, ar, g1, g2⟩ := h.heap.obj _ _ hl
   exact ⟨m, _, _, hexec _ (by rw [hxe]; simp [Builtin.clear_, run_underlying hu, a7b g1, b2x _ g1]), h.turn (o := .map [] clk) (ob := .map #[] clk) hl (by simp) h0 (by simp) g1 (fun w' q1 _ => ⟨h0, #[], q1, .nil⟩), unit _⟩
 . rename_i l sz off hx
   split at hs
   case isFalse => cases hs
   rename_i ht
   obtain ⟨d, hd⟩ := Option.isSome_iff_exists.1 ht
   simp only [sE_, Prod.mk.injEq] at hs
   rw [hx] at hxv
   generalize hxe : a.eval x = vx at hxv
   refine none' hs.1.symm hs.2.symm ?_
   rw [hxe]
   cases hxv with
   | sl => simp [Builtin.clear_, run_underlying hd]
   | sl0 _ _ _ A => cases A <;> simp [Builtin.clear_, run_underlying hd]
 . rename_i l sz off len hlen hx
   split at hs
   case h_2 => cases hs
   rename_i T sz'' xs e sz' hl ht
   obtain ⟨hu, hz⟩ := a4n ht
   split at hs
   case h_2 => cases hs
   rename_i z hzc
   split at hs
   case isFalse => cases hs
   rename_i hc
   simp only [bA_, dE_] at hc
   obtain ⟨⟨rfl, e2⟩, hzl, h0, hle, hcell⟩ := hc
   rw [e2] at hl
   simp only [sE_, Prod.mk.injEq] at hs
   obtain ⟨rfl, rfl⟩ := hs
   have hpos : len ≠ 0 := fun e => hlen e
   obtain ⟨zv, g1, g2, g3⟩ := b4h (w := w) (F := F) (U := fun k => s.H k ≠ none) (m := m) hzc
   have hbase := b9b (len := len) h0 hzl (by omega) g2
   rw [hx] at hxv
   generalize hxe : a.eval x = vx at hxv
   cases hxv with
   | sl0 => exact absurd rfl hpos
   | sl _ _ _ _ cap o' hul hcap hoff hfit =>
   have hoff' := hoff.resolve_left (by omega)
   subst hoff'
   have hm0 : (m l).2 ≠ 0 := by
    intro hz
    rw [hz] at hfit
    have : 0 < (off + cap) * sz' := Nat.mul_pos (by omega) h0
    omega
   obtain ⟨w', k1, k2⟩ := h.splice (P := P) (off := off) (rows := List.replicate len z) hl hm0 (by simpa using hle) (fun r hr => by rw [List.eq_of_mem_replicate hr]; exact hzl) hbase (hbase.one (by
    rw [List.all_eq_true] at hcell ⊢
    intro x hx
    obtain ⟨r, hr, hxr⟩ := List.mem_flatten.1 hx
    rw [List.eq_of_mem_replicate hr] at hxr
    exact hcell x hxr))
   rw [List.length_replicate] at k2
   have hzs : zv.cells.size = sz' := by omega
   have hb : (Builtin.zeroCells zv.cells len).toList = ((Array.range (len * sz')).map fun k => zv.cells[k % zv.cells.size]!).toList := by unfold Builtin.zeroCells; rw [hzs]
   refine ⟨m, _, w', hexec _ ?_, k2, unit _⟩
   rw [hxe]
   rw [<- hb] at k1
   cases len with
   | zero => exact absurd rfl hpos
   | succ n => simp [Builtin.clear_, run_underlying hu, g1, k1]
 . cases hs
def wv (P : Program) (H : Heap) (nm : Loc) (ρ : Operand -> FV) (o : Oper) : Option (List (Loc × FO) × FV) := match o.op with
 | .alloc t => b3t P H nm t
 | .box t x => wBox H nm t (ρ x)
 | .store t ad x => a7v P H t (ρ ad) (ρ x)
 | .buildSlice t len parts => a7c P H ρ nm t len parts
 | .makeSlice t x y => b3s P H nm t (ρ x) (ρ y)
 | .makeMap _ r => b1v P H nm (r.map ρ)
 | .mapUpdate t x k v => b1f P H t (ρ x) (ρ k) (ρ v)
 | .insert t x k v => b1f P H t (ρ x) (ρ k) (ρ v)
 | .range t x => b1t P H nm t (ρ x)
 | .next it str => d8f H (ρ it) str
 | .call { callee := .builtin .append, args := ⟨[x, y]⟩, argTypes := ⟨[t, tx]⟩ } => wApp P H nm t tx (ρ x) (ρ y)
 | .call { callee := .builtin .clear, args := ⟨[x]⟩, argTypes := ⟨[t]⟩ } => c5k P H t (ρ x)
 | _ => (pv P H ρ o).map fun v => ([], v)
theorem f5t {nm : Loc} {us : List (Loc × FO)} {v : FV} (hs : wv P s.H nm (rv s) o = some (us, v)) : WOk P s o us v := by
 unfold wv at hs
 split at hs
 . exact d1b hs ‹_›
 . exact e4s hs ‹_›
 . exact d0u hs ‹_›
 . exact c9h hs ‹_›
 . exact d0y hs ‹_›
 . exact d0z hs ‹_›
 . exact c5j hs (.inl ‹_›)
 . exact c5j hs (.inr ‹_›)
 . exact d0w hs ‹_›
 . exact d8e hs ‹_›
 . exact e4t hs ‹_›
 . exact d1a hs ‹_›
 . rw [oM_] at hs
   obtain ⟨y, hy, e⟩ := hs
   simp only [Prod.mk.injEq] at e
   obtain ⟨rfl, rfl⟩ := e
   intro X F m a w h
   obtain ⟨u, h1, h2⟩ := f7c h hy
   exact ⟨m, u, w, .inl h1, h, h2⟩
end
end Go.FM
