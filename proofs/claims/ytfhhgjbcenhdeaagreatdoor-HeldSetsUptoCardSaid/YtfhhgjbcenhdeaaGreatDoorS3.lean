/- Part. -/
import Derived.Test.YtfhhgjbcenhdeaaGreatDoorS1
import Derived.WalkKit
import Derived.Deep.AppendSrc
import Derived.Deep.Upon
import Derived.MapKept
set_option linter.all false
set_option maxRecDepth 100000
set_option maxHeartbeats 0
namespace Go.FM
open Go
variable {b : Bool} {cs : List FV} {es : List (FV × FV × Nat)} {l nm : Loc} {n sz : Nat} {o : Oper} {op : BinOp} {r u v x y : FV} {t : TypeId} {us : LF} {vx vy : Value} {xs : List MapEntry}
inductive Kd where
 | int (k : IntKind)
 | bool
 | str
 deriving DecidableEq
variable {k : Kd}
def kdT (P : Program) (t : TypeId) : Option Kd := match P.underlying t with
 | some (.int k) => some (.int k)
 | some .bool => some .bool
 | some .string => some .str
 | _ => none
def FV.kd : FV -> Option Kd
 | .int k _ => some (.int k)
 | .bool _ => some .bool
 | .str _ => some .str
 | _ => none
def eqV : FV -> FV -> Bool
 | .int _ m, .int _ n => decide (m = n)
 | .bool m, .bool n => m == n
 | .str m, .str n => m.data.toList == n.data.toList
 | _, _ => false
def c4g (P : Program) : List Field -> Nat -> Option (List Kd)
 | [], _ => some []
 | f :: fs, i => if f.offset = i then (if f.name = "_" then none else match kdT P f.type with
   | some k => (c4g P fs (i + 1)).map (k :: ·)
   | none => none) else none
def stT (P : Program) (t : TypeId) : Option (List Kd) := match P.underlying t with
 | some (.struct fs) => if P.stoodInHeld t then none else c4g P fs.toList 0
 | _ => none
def a2l : List Kd -> List FV -> List FV -> Option Bool
 | [], _, _ => some true
 | k :: ks, x :: xs, y :: ys => if x.kd = some k then (if y.kd = some k then (a2l ks xs ys).map (eqV x y && ·) else none) else none
 | _, _, _ => none
def eqK (P : Program) (t : TypeId) (x y : FV) : Option Bool := match kdT P t with
 | some k => if x.kd = some k then (if y.kd = some k then some (eqV x y) else none) else none
 | none => match stT P t, x, y with
   | some ks, .agg xs, .agg ys => if xs.length = ks.length then (if ys.length = ks.length then a2l ks xs ys else none) else none
   | _, _, _ => none
section
variable {P : Program} {w : World} {F : Nat -> Prop} {U : Loc -> Prop} {m : Loc -> Nat × Nat}
theorem e5s (h : kdT P t = some k) (w : World) : (isAgg t).run P w = .ok false w := by
 unfold kdT at h
 split at h <;> first | (cases h; done) | (rename_i hu; simp [isAgg, run_underlying hu])
theorem e0l (h : kdT P t = some k) (hx : RF w F U m x vx) (hy : RF w F U m y vy) (h1 : x.kd = some k) (h2 : y.kd = some k) (d : Nat) (w' : World) : (Op.equalIn (d + 1) t vx vy).run P w' = .ok (eqV x y) w' := by
 unfold kdT at h
 cases hx <;> simp only [FV.kd, A5v, reduceCtorEq] at h1 <;> subst h1 <;> cases hy <;> simp only [FV.kd, A5v, reduceCtorEq, Kd.int.injEq] at h2
 . subst h2
   split at h <;> simp only [A5v, reduceCtorEq, Kd.int.injEq] at h
   rename_i hu; subst h
   simp only [eqV]; rw [run_equalIn_int w' d t _ _ _ _ hu, d8k]
 . split at h <;> simp only [A5v, reduceCtorEq] at h
   rename_i hu
   simp only [eqV]; exact run_equalIn_bool' w' d t _ _ hu
 . split at h <;> simp only [A5v, reduceCtorEq] at h
   rename_i hu
   simp only [eqV]; rw [<- ByteArray.toList_eq, <- ByteArray.toList_eq]; exact run_equalIn_string w' d t _ _ hu
theorem c0q (h : kdT P t = some k) {cs : Array Value} {off : Nat} {v : Value} (hv : cs[off]? = some v) (w : World) : (part t cs off).run P w = .ok v w := by
 simp [part, e5s h, hv]
theorem b4j (xs ys : Array Value) (d : Nat) : ∀ (fs : List Field) (ks : List Kd) (i : Nat) (as bs : List FV) (us vs : List Value) (b : Bool), c4g P fs i = some ks -> a2l ks as bs = some b -> RFs w F U m as us -> RFs w F U m bs vs ->
 (∀ j, us[j]? = xs[i + j]?) -> (∀ j, vs[j]? = ys[i + j]?) -> ∀ w', (Op.eqFields (d + 1) xs ys fs).run P w' = .ok b w'
 | [], ks, i, as, bs, us, vs, b, h, he, _, _, _, _, w' => by
   obtain rfl : [] = ks := by simpa [c4g] using h
   obtain rfl : true = b := by simpa [a2l] using he
   simp [Op.eqFields]
 | f :: fs, ks, i, as, bs, us, vs, b, h, he, ha, hb, hx, hy, w' => by
   unfold c4g at h
   split at h
   case isFalse => cases h
   rename_i ho
   split at h
   case isTrue => cases h
   rename_i hn
   split at h
   case h_2 => cases h
   rename_i k hk
   rw [A5q] at h
   obtain ⟨ks', hks, rfl⟩ := h
   cases ha with
   | nil => simp [a2l] at he
   | cons a u as us ha has =>
   cases hb with
   | nil => simp [a2l] at he
   | cons b' v bs vs hb hbs =>
   simp only [a2l] at he
   split at he
   case isFalse => cases he
   rename_i k1
   split at he
   case isFalse => cases he
   rename_i k2
   rw [A5q] at he
   obtain ⟨b2, he, rfl⟩ := he
   have hux : xs[f.offset]? = some u := by rw [ho]; have := hx 0; simpa using this.symm
   have huy : ys[f.offset]? = some v := by rw [ho]; have := hy 0; simpa using this.symm
   have ih := b4j xs ys d fs ks' (i + 1) as bs us vs b2 hks he has hbs (fun j => by have := hx (j + 1); rw [A4m, A3v 1 j]; simpa using this) (fun j => by have := hy (j + 1); rw [A4m, A3v 1 j]; simpa using this)
   unfold Op.eqFields
   rw [if_pos hn]
   simp only [Sem.run_bind, c0q hk hux, c0q hk huy, Result.andThen_ok, e0l hk ha hb k1 k2]
   cases hq : eqV a b'
   . simp
   . simpa using ih w'
theorem f0t (h : eqK P t x y = some b) (hx : RF w F U m x vx) (hy : RF w F U m y vy) (d : Nat) (w' : World) : (Op.equalIn (d + 1 + 1) t vx vy).run P w' = .ok b w' := by
 unfold eqK at h
 split at h
 . rename_i k hk
   split at h
   case isFalse => cases h
   split at h
   case isFalse => cases h
   obtain rfl := by simpa using h
   exact e0l hk hx hy ‹_› ‹_› _ _
 . split at h
   case h_2 => cases h
   rename_i ks xs ys hst
   split at h
   case isFalse => cases h
   split at h
   case isFalse => cases h
   cases hx with
   | agg _ us hus =>
   cases hy with
   | agg _ vs hvs =>
   unfold stT at hst
   split at hst
   case h_2 => cases hst
   rename_i fs hu
   split at hst
   case isTrue => cases hst
   rename_i hso
   have hf : P.fieldsOf t = fs := by simp [Program.fieldsOf, hu]
   rw [run_equalIn_struct w' (d + 1) t _ _ (by rw [hf]; exact hu) (by simpa using hso), hf]
   exact b4j _ _ d fs.toList ks 0 _ _ us vs b hst h hus hvs yd yd w'
theorem b7v (h : eqK P t x y = some b) (hx : RF w F U m x vx) (hy : RF w F U m y vy) (w' : World) : (Op.equal t vx vy).run P w' = .ok b w' := f0t h hx hy 9998 w'
theorem d0x (hx : RF w F U m x vx) (hy : RF w F U m y vy) (h1 : x.kd = some k) (h2 : y.kd = some k) (h : eqV x y = true) (n : Nat) : Instr.sameBits n vx vy = true := by
 cases hx <;> simp only [FV.kd, A5v, reduceCtorEq] at h1 <;> subst h1 <;> cases hy <;> simp only [FV.kd, A5v, reduceCtorEq, Kd.int.injEq] at h2
 . subst h2; simp only [eqV, A5w] at h; subst h; simp [Instr.sameBits]
 . simp only [eqV, beq_iff_eq] at h; subst h; simp [Instr.sameBits]
 . simp only [eqV, <- ByteArray.toList_eq, <- beq_toListBytes] at h; simpa [Instr.sameBits] using h
theorem b4l (n : Nat) : ∀ (ks : List Kd) (as bs : List FV) (us vs : List Value), as.length = ks.length -> bs.length = ks.length -> a2l ks as bs = some true -> RFs w F U m as us -> RFs w F U m bs vs -> ((us.zip vs).all fun (x, y) => Instr.sameBits n x y) = true
 | [], as, bs, us, vs, ha0, hb0, _, ha, hb => by
   obtain rfl : as = [] := A5u ha0
   cases ha; simp
 | k :: ks, as, bs, us, vs, ha0, hb0, h, ha, hb => by
   cases ha with
   | nil => simp at ha0
   | cons a u as us ha has =>
   cases hb with
   | nil => simp at hb0
   | cons b v bs vs hb hbs =>
   simp only [a2l] at h
   split at h
   case isFalse => cases h
   rename_i k1
   split at h
   case isFalse => cases h
   rename_i k2
   rw [A5q] at h
   obtain ⟨b2, h, hb2⟩ := h
   rw [A5t] at hb2
   obtain ⟨h3, rfl⟩ := hb2
   have ih := b4l n ks as bs us vs (by simpa using ha0) (by simpa using hb0) h has hbs
   simp only [A3q, A3i, d0x ha hb k1 k2 h3 n, A4a]
   exact ih
theorem e7l (h : eqK P t x y = some true) (hx : RF w F U m x vx) (hy : RF w F U m y vy) (n : Nat) : Instr.sameBits (n + 1) vx vy = true := by
 unfold eqK at h
 split at h
 . split at h
   case isFalse => cases h
   split at h
   case isFalse => cases h
   exact d0x hx hy ‹_› ‹_› zl _
 . split at h
   case h_2 => cases h
   rename_i ks xs ys hst
   split at h
   case isFalse => cases h
   rename_i h1
   split at h
   case isFalse => cases h
   rename_i h2
   cases hx with
   | agg _ us hus =>
   cases hy with
   | agg _ vs hvs =>
   have e1 := hus.length
   have e2 := hvs.length
   simp only [Instr.sameBits, A5t]
   exact ⟨by simp; omega, b4l n ks _ _ us vs h1 h2 h hus hvs⟩
inductive NK where
 | ptr
 | sl
 | mp
 | fn
 deriving DecidableEq
def nilT (P : Program) (t : TypeId) : Option NK := match P.underlying t with
 | some (.pointer _) => some .ptr
 | some (.slice _) => some .sl
 | some (.map _ _) => some .mp
 | some (.func _ _ _) => some .fn
 | _ => none
def nilV : NK -> FV -> Option Bool
 | .ptr, .nilp => some true
 | .ptr, .ptr .. => some false
 | .ptr, .ref _ => some false
 | .sl, .nils => some true
 | .sl, .sl _ _ _ (_ + 1) => some false
 | .mp, .nilm => some true
 | .mp, .mp _ => some false
 | .fn, .nilf => some true
 | .fn, .clo .. => some false
 | _, _ => none
def c6u (k : NK) (x y : FV) : Option Bool := match nilV k x, nilV k y with
 | some true, some b => some b
 | some b, some true => some b
 | _, _ => none
def NVal : NK -> Bool -> Value -> Prop
 | .ptr, b, v => ∃ A : Option Addr, v = .pointer A /\ A.isNone = b
 | .sl, b, v => ∃ (A : Option Addr) (n c : Nat), v = .slice A n c /\ A.isNone = b
 | .mp, b, v => ∃ A : Option Nat, v = .map A /\ A.isNone = b
 | .fn, true, v => v = .nilFunc
 | .fn, false, v => ∃ f a c, v = .func f a c
theorem b5l {k : NK} {v : Value} (h : nilV k x = some b) (hx : RF w F U m x v) : NVal k b v := by
 unfold nilV at h
 split at h <;> first | (cases h; done) | skip
 all_goals
  obtain rfl := A5o h
  cases hx
 . exact ⟨none, rfl, rfl⟩
 . exact ⟨_, rfl, rfl⟩
 . exact ⟨_, rfl, rfl⟩
 . exact ⟨none, _, _, rfl, rfl⟩
 . exact ⟨_, _, _, rfl, rfl⟩
 . exact ⟨none, rfl, rfl⟩
 . exact ⟨_, rfl, rfl⟩
 . rfl
 . exact ⟨_, _, _, rfl⟩
theorem d3l {k : NK} (h : c6u k x y = some b) (hx : RF w F U m x vx) (hy : RF w F U m y vy) : (NVal k true vx /\ NVal k b vy) \/ (NVal k b vx /\ NVal k true vy) := by
 unfold c6u at h
 split at h
 . rename_i b' h1 h2
   obtain rfl := A5o h
   exact .inl ⟨b5l h1 hx, b5l h2 hy⟩
 . rename_i b' _ h1 h2
   obtain rfl := A5o h
   exact .inr ⟨b5l h1 hx, b5l h2 hy⟩
 . cases h
theorem f4r {k : NK} (ht : nilT P t = some k) (h : (NVal k true vx /\ NVal k b vy) \/ (NVal k b vx /\ NVal k true vy)) (op : BinOp) (x y : Operand) (w' : World) :
 (eqGuard op t x y vx vy).run P w' = .ok () w' /\ (binOp .eql t vx vy).run P w' = .ok (.bool b) w' /\ (binOp .neq t vx vy).run P w' = .ok (.bool !b) w' := by
 have fin : ∀ vx vy, (Op.equal t vx vy).run P w' = .ok b w' -> binOp .eql t vx vy = (do pure (.bool (<- Op.equal t vx vy))) -> binOp .neq t vx vy = (do pure (.bool (!(<- Op.equal t vx vy)))) ->
  (binOp .eql t vx vy).run P w' = .ok (.bool b) w' /\ (binOp .neq t vx vy).run P w' = .ok (.bool !b) w' := fun vx vy h e1 e2 => ⟨by rw [e1, Sem.run_bind, h]; rfl, by rw [e2, Sem.run_bind, h]; rfl⟩
 have eqs : ∀ vx vy, (∀ d, (Op.equalIn (d + 1) t vx vy).run P w' = .ok b w') -> (Op.equal t vx vy).run P w' = .ok b w' := fun _ _ h => h 9999
 unfold nilT at ht
 split at ht <;> first | (cases ht; done) | skip
 all_goals
  rename_i hu
  obtain rfl := A5o ht
 . rcases h with ⟨⟨A, rfl, hA⟩, ⟨B, rfl, hB⟩⟩ | ⟨⟨A, rfl, hA⟩, ⟨B, rfl, hB⟩⟩
   . obtain rfl : A = none := by simpa using hA
     have := eqs (.pointer none) (.pointer B) fun d => by subst hB; rw [Op.equalIn, Sem.run_bind, run_underlying hu]; cases B <;> rfl
     exact ⟨by cases op <;> rfl, fin _ _ this rfl rfl⟩
   . obtain rfl : B = none := by simpa using hB
     have := eqs (.pointer A) (.pointer none) fun d => by subst hA; rw [Op.equalIn, Sem.run_bind, run_underlying hu]; cases A <;> rfl
     exact ⟨by cases op <;> rfl, fin _ _ this rfl rfl⟩
 . rcases h with ⟨⟨A, n, c, rfl, hA⟩, ⟨B, n', c', rfl, hB⟩⟩ | ⟨⟨A, n, c, rfl, hA⟩, ⟨B, n', c', rfl, hB⟩⟩
   . obtain rfl : A = none := by simpa using hA
     have := eqs (.slice none n c) (.slice B n' c') fun d => by subst hB; rw [Op.equalIn, Sem.run_bind, run_underlying hu]; cases B <;> rfl
     exact ⟨by cases op <;> rfl, fin _ _ this rfl rfl⟩
   . obtain rfl : B = none := by simpa using hB
     have := eqs (.slice A n c) (.slice none n' c') fun d => by subst hA; rw [Op.equalIn, Sem.run_bind, run_underlying hu]; cases A <;> rfl
     exact ⟨by cases op <;> rfl, fin _ _ this rfl rfl⟩
 . rcases h with ⟨⟨A, rfl, hA⟩, ⟨B, rfl, hB⟩⟩ | ⟨⟨A, rfl, hA⟩, ⟨B, rfl, hB⟩⟩
   . obtain rfl : A = none := by simpa using hA
     have := eqs (.map none) (.map B) fun d => by subst hB; rw [Op.equalIn, Sem.run_bind, run_underlying hu]; cases B <;> rfl
     exact ⟨by cases op <;> rfl, fin _ _ this rfl rfl⟩
   . obtain rfl : B = none := by simpa using hB
     have := eqs (.map A) (.map none) fun d => by subst hA; rw [Op.equalIn, Sem.run_bind, run_underlying hu]; cases A <;> rfl
     exact ⟨by cases op <;> rfl, fin _ _ this rfl rfl⟩
 . cases b
   . rcases h with ⟨rfl, ⟨f, a, c, rfl⟩⟩ | ⟨⟨f, a, c, rfl⟩, rfl⟩
     . have := eqs .nilFunc (.func f a c) fun d => by rw [Op.equalIn, Sem.run_bind, run_underlying hu]; rfl
       exact ⟨by cases op <;> rfl, fin _ _ this rfl rfl⟩
     . have := eqs (.func f a c) .nilFunc fun d => by rw [Op.equalIn, Sem.run_bind, run_underlying hu]; rfl
       exact ⟨by cases op <;> rfl, fin _ _ this rfl rfl⟩
   . rcases h with ⟨rfl, rfl⟩ | ⟨rfl, rfl⟩
     all_goals
      have := eqs .nilFunc .nilFunc fun d => by rw [Op.equalIn, Sem.run_bind, run_underlying hu]; rfl
      exact ⟨by cases op <;> rfl, fin _ _ this rfl rfl⟩
def c4i (P : Program) (t : TypeId) (x y : FV) : Option Bool := match x, y with
 | .agg _, .agg _ => if P.eqGuardType P.depth t then none else eqK P t x y
 | _, _ => match nilT P t with
   | some k => c6u k x y
   | none => none
def fCmp (P : Program) (op : BinOp) (t : TypeId) (x y : FV) : Option FV := match op with
 | .eql => (c4i P t x y).map .bool
 | .neq => (c4i P t x y).map fun b => .bool !b
 | _ => none
theorem d0u {x y : Operand} (h : c4i P t u v = some b) (hu : RF w F U m u vx) (hv : RF w F U m v vy) (w' : World) :
 (eqGuard op t x y vx vy).run P w' = .ok () w' /\ (binOp .eql t vx vy).run P w' = .ok (.bool b) w' /\ (binOp .neq t vx vy).run P w' = .ok (.bool !b) w' := by
 unfold c4i at h
 split at h
 . split at h
   case isTrue => cases h
   rename_i hg
   have he := f0t h hu hv 9998 w'
   cases hu; cases hv
   exact ⟨run_eqGuard_agg w' op t x y _ _ (by simpa using hg), by rw [run_eql_struct, he]; rfl, by rw [run_neq_struct, he]; rfl⟩
 . split at h
   . rename_i k hk
     exact f4r hk (d3l h hu hv) op x y w'
   . cases h
theorem f6k {x y : Operand} (h : fCmp P op t u v = some r) (hu : RF w F U m u vx) (hv : RF w F U m v vy) :
 ∃ vr, ((do eqGuard op t x y vx vy; binOp op t vx vy : Sem Value).run P w = .ok vr w) /\ RF w F U m r vr := by
 unfold fCmp at h
 split at h
 . rw [A5q] at h
   obtain ⟨b, hb, rfl⟩ := h
   obtain ⟨h1, h2, h3⟩ := d0u (op := .eql) (x := x) (y := y) hb hu hv w
   exact ⟨_, by rw [Sem.run_bind, h1]; exact h2, .bool b⟩
 . rw [A5q] at h
   obtain ⟨b, hb, rfl⟩ := h
   obtain ⟨h1, h2, h3⟩ := d0u (op := .neq) (x := x) (y := y) hb hu hv w
   exact ⟨_, by rw [Sem.run_bind, h1]; exact h3, .bool !b⟩
 . cases h
end
def a2y (P : Program) (t : TypeId) : Option (List FV) := match P.info? t with
 | some i => match i.zero with
   | some z => some (z.cells.toList.map cv1)
   | none => none
 | none => none
def a3v (P : Program) (t : TypeId) : Option (List (Nat × Nat)) := match P.info? t, P.underlying t with
 | some _, some (.struct fs) => fs.toList.mapM fun f => (P.info? f.type).map fun i => (f.offset, i.size)
 | _, _ => none
def a7c : List FV -> Nat -> List FV -> List FV
 | l, _, [] => l
 | l, off, x :: xs => a7c (l.set off x) (off + 1) xs
def b5b : List Value -> Nat -> List Value -> List Value
 | l, _, [] => l
 | l, off, x :: xs => b5b (l.set off x) (off + 1) xs
def b2u (pl : Nat -> Option (Nat × Nat)) : List FV -> List (Nat × FV) -> Option (List FV)
 | z, [] => some z
 | z, (i, v) :: r => match pl i with
   | some (off, n) => if decide (v.cellsL.length = n) && (v.storable && decide (off + n <= z.length)) then b2u pl (a7c z off v.cellsL) r else none
   | none => none
section
variable {P : Program} {X : Ctx} {c : Cfg} {w w' : World} {F F' : Nat -> Prop} {U : Loc -> Prop} {m m' : Loc -> Nat × Nat} {s s' : Fs} {a a' : Act} {H : Heap}
theorem RFs.cv1s : ∀ l : List Value, RFs w F U m (l.map cv1) l
 | [] => .nil
 | x :: l => .cons _ _ _ _ (RF.cv1 x) (RFs.cv1s l)
theorem b4v (h : a2y P t = some cs) (w : World) : ∃ z, (zeroValue t).run P w = .ok z w /\ RFs w F U m cs z.cells.toList /\ cs.length = z.cells.size := by
 unfold a2y at h
 split at h
 . rename_i i hi
   split at h
   . rename_i z hz
     obtain rfl := by simpa using h
     exact ⟨z, by simp [zeroValue, typeInfo, hi, hz], RFs.cv1s _, by simp⟩
   . cases h
 . cases h
theorem b2t (off : Nat) : ∀ (xs : List Value) (k : Nat) (cells : Array Value), ((xs.zipIdx k).foldl (fun (cs : Array Value) (x : Value × Nat) => cs.setIfInBounds (off + x.2) x.1) cells).toList = b5b cells.toList (off + k) xs
 | [], _, _ => rfl
 | x :: xs, k, cells => by
   simp only [List.zipIdx_cons, A2i, b5b]
   rw [b2t off xs (k + 1)]
   simp [A4m]
theorem b8y : ∀ (xs : List FV) (us : List Value) (cs : List FV) (vs : List Value) (off : Nat), RFs w F U m xs us -> RFs w F U m cs vs -> RFs w F U m (a7c cs off xs) (b5b vs off us)
 | _, _, cs, vs, off, .nil, hc => hc
 | _, _, cs, vs, off, .cons x u xs us h hs, hc => b8y xs us _ _ (off + 1) hs (hc.set off h)
theorem c1s (pl : Nat -> Option (Nat × Nat)) : ∀ (is : List Nat) (xs : List FV) (us : List Value) (cs r : List FV) (cells : Array Value), is.length = xs.length -> RFs w F U m xs us -> RFs w F U m cs cells.toList ->
 b2u pl cs (is.zip xs) = some r -> ∃ cells', Instr.fill pl cells (is.zip us) = some cells' /\ RFs w F U m r cells'.toList
 | [], [], us, cs, r, cells, _, h, hc, hr => by
   cases h
   simp [b2u] at hr
   subst hr
   exact ⟨cells, by simp [Instr.fill], hc⟩
 | i :: is, x :: xs, us, cs, r, cells, hl, h, hc, hr => by
   cases h with
   | cons _ u _ us h hs =>
   simp only [A3q, b2u] at hr
   split at hr
   . rename_i off n hp
     split at hr
     . rename_i hcond
       simp only [A5t, A5w] at hcond
       obtain ⟨h1, h2, h3⟩ := hcond
       obtain ⟨g1, g2⟩ := h.cells h2
       have hlen := g1.length
       have hcl := hc.length
       have hnew := b8y x.cellsL u.cells.toList cs cells.toList off g1 hc
       have e := b2t off u.cells.toList 0 cells
       simp only [A3h] at e
       rw [<- e] at hnew
       obtain ⟨cells', k1, k2⟩ := c1s pl is xs us _ r _ z1r hs hnew hr
       refine ⟨cells', ?_, k2⟩
       simp only [A3q, Instr.fill, hp]
       have hsz : u.cells.size = n := by rw [<- h1, hlen]; simp
       have hcs : cells.size = cs.length := by rw [hcl]; simp
       rw [if_neg (by simp [hsz]; omega)]
       rw [<- k1]
       congr 1
       rw [<- Array.foldl_toList, Array.toList_zipIdx]
     . cases hr
   . cases hr
def pv1 (P : Program) (H : Heap) (ρ : Operand -> FV) (o : Oper) : Option FV := match o.op with
 | .move x => some (ρ x)
 | .assign x => some (ρ x)
 | .pick x y z => match ρ x with
   | .bool true => some (ρ y)
   | .bool false => some (ρ z)
   | _ => none
 | .binOp op t x y _ => fBin P op t (ρ x) (ρ y)
 | .unOp op _ x => fUn op (ρ x)
 | .convert a b x => c6s P a b (ρ x)
 | .extract x i => match ρ x with
   | .tup cs => cs[i]?
   | _ => none
 | .build t parts => match a2y P t, a3v P t with
   | some z, some pl => (b2u (pl[·]?) z ((parts.toList.map (·.1)).zip ((parts.toList.map (·.2)).map ρ))).map .agg
   | _, _ => none
 | .fieldAddr st x f => b7s P st (ρ x) f
 | .load t x => b4s P H t (ρ x)
 | .indexAddr t x i => b7r P t (ρ x) (ρ i)
 | .slice t x lo hi none => b7q P t (ρ x) (lo.map ρ) (hi.map ρ)
 | .makeFunc (.func f) first caps => some (.clo f (first.toList.map ρ) (caps.toList.map ρ))
 | .call { callee := .builtin .len, args := ⟨[x]⟩, argTypes := ⟨[t]⟩ } => fLen P H t (ρ x)
 | _ => none
theorem g1a (h : RelX X F m s a w) (hs : pv1 P s.H (rv s) o = some y) : ∃ v, (execOp a.eval o).run P w = .ok (.value v) w /\ RF w F (fun l => s.H l ≠ none) m y v := by
 unfold pv1 at hs
 split at hs
 . rename_i x ho
   obtain rfl := by simpa using hs
   exact ⟨_, by simp [execOp, ho], a1n h x⟩
 . rename_i x ho
   obtain rfl := by simpa using hs
   exact ⟨_, by simp [execOp, ho], a1n h x⟩
 . rename_i x y z ho
   have hx := a1n h x
   split at hs
   all_goals try (cases hs; done)
   all_goals
    rename_i hb
    rw [hb] at hx
    generalize hv : a.eval x = vx at hx
    cases hx
    obtain rfl := by simpa using hs
    exact ⟨_, by simp [execOp, ho, hv, asBool], a1n h _⟩
 . rename_i op t x y ty ho
   obtain ⟨v, h1, h2⟩ := f6l (x := x) (y := y) hs (a1n h x) (a1n h y)
   refine ⟨v, ?_, h2⟩
   simp only [execOp, ho, Sem.run_bind] at h1 ⊢
   simp [h1]
 . rename_i op t x ho
   obtain ⟨v, h1, h2⟩ := g3n (P := P) hs (a1n h x)
   exact ⟨v, by simp [execOp, ho, h1], h2⟩
 . rename_i t1 t2 x ho
   obtain ⟨v, h1, h2⟩ := e7e hs (a1n h x)
   exact ⟨v, by simp [execOp, ho, h1], h2⟩
 . rename_i x i ho
   have hx := a1n h x
   split at hs
   . rename_i cs hc
     rw [hc] at hx
     generalize hv : a.eval x = vx at hx
     cases hx with
     | tup _ vs hvs =>
     obtain ⟨u, g1, g2⟩ := hvs.get i hs
     exact ⟨u, by simp [execOp, ho, hv, Instr.extract, g1], g2⟩
   . cases hs
 . rename_i t parts ho
   split at hs
   . rename_i z pl hz hpl
     rw [A5q] at hs
     obtain ⟨r, hr, rfl⟩ := hs
     unfold a2y at hz
     unfold a3v at hpl
     split at hpl
     case h_2 => cases hpl
     rename_i it fs hit hu
     rw [hit] at hz
     simp only at hz
     split at hz
     case h_2 => cases hz
     rename_i zv hzv
     obtain rfl := by simpa using hz
     have hparts : (parts.map fun (i, x) => (i, a.eval x)).toList = (parts.toList.map (·.1)).zip ((parts.toList.map (·.2)).map a.eval) := by
      rw [Array.toList_map]
      generalize parts.toList = l
      induction l with
      | nil => rfl
      | cons x l ih => obtain ⟨i, x⟩ := x; simp only [A1m, A3q, ih]
     have hvals : RFs w F (fun l => s.H l ≠ none) m ((parts.toList.map (·.2)).map (rv s)) ((parts.toList.map (·.2)).map a.eval) := by
      generalize parts.toList.map (·.2) = l
      induction l with
      | nil => exact .nil
      | cons x l ih => exact .cons _ _ _ _ (a1n h x) ih
     obtain ⟨cells', k1, k2⟩ := c1s (w := w) (F := F) (U := fun l => s.H l ≠ none) (m := m) (pl[·]?) (parts.toList.map (·.1)) _ _ _ r zv.cells yd hvals (RFs.cv1s _) hr
     have hb : P.built t (parts.map fun (i, x) => (i, a.eval x)).toList = some cells' := by
      unfold Program.built
      simp only [hit, hu, hzv, hpl]
      rw [hparts]
      simpa using k1
     refine ⟨.agg cells', by simp only [execOp, ho, Sem.run_bind]; rw [run_build w t _ cells' hb]; rfl, ?_⟩
     simpa using RF.agg r cells'.toList k2
   . cases hs
 . rename_i st x f ho
   obtain ⟨v, h1, h2⟩ := e0j hs (a1n h x)
   exact ⟨v, by simp [execOp, ho, h1], h2⟩
 . rename_i t x ho
   obtain ⟨v, h1, h2⟩ := d0t h.heap hs (a1n h x)
   exact ⟨v, by simp [execOp, ho, h1], h2⟩
 . rename_i t x i ho
   obtain ⟨v, h1, h2⟩ := e0i hs (a1n h x) (a1n h i)
   exact ⟨v, by simp [execOp, ho, h1], h2⟩
 . rename_i t x lo hi ho
   obtain ⟨v, h1, h2⟩ := e0e (P := P) (vlo := lo.map a.eval) (vhi := hi.map a.eval) hs (a1n h x) (fun f hf => by
    rw [A5q] at hf
    obtain ⟨z, rfl, rfl⟩ := hf
    exact ⟨_, rfl, a1n h z⟩) (fun e => by simpa using e) (fun f hf => by
    rw [A5q] at hf
    obtain ⟨z, rfl, rfl⟩ := hf
    exact ⟨_, rfl, a1n h z⟩) (fun e => by simpa using e)
   exact ⟨v, by simp [execOp, ho, h1], h2⟩
 . rename_i f first caps ho
   obtain rfl := by simpa using hs
   have hall : ∀ l : List Operand, RFs w F (fun l => s.H l ≠ none) m (l.map (rv s)) (l.map a.eval) := fun l => by
    induction l with
    | nil => exact .nil
    | cons x l ih => exact .cons _ _ _ _ (a1n h x) ih
   refine ⟨.func (.func f) (first.map a.eval) (caps.map a.eval), by simp [execOp, ho, Instr.makeFunc], ?_⟩
   have := RF.clo (w := w) (F := F) (U := fun l => s.H l ≠ none) (m := m) f _ _ _ _ (hall first.toList) (hall caps.toList)
   have e : ∀ l : Array Operand, (l.toList.map a.eval).toArray = l.map a.eval := fun l => by rw [<- Array.toList_map]
   rw [e, e] at this
   exact this
 . rename_i x t ho
   obtain ⟨v, h1, h2⟩ := f6i (ty := o.type) h.heap hs (a1n h x)
   refine ⟨v, ?_, h2⟩
   simp [execOp, ho, resolve, invoke, builtin, h1]
 . cases hs
end
def mpT (P : Program) (t : TypeId) : Option (TypeId × TypeId) := match P.underlying t with
 | some (.map k e) => some (k, e)
 | _ => none
def c4y (P : Program) (t : TypeId) : Option FV := match P.info? t with
 | some i => i.zero.map cv
 | none => none
def a8h (P : Program) (t : TypeId) (x : FV) : Bool := match kdT P t with
 | some _ => true
 | none => match stT P t, x with
   | some ks, .agg xs => decide (xs.length = ks.length)
   | _, _ => false
def a7h (P : Program) (t : TypeId) (x : FV) : List (FV × FV × Nat) -> Nat -> Option (Option (Nat × FV))
 | [], _ => some none
 | e :: es, i => match eqK P t x e.1 with
   | some true => some (some (i, e.2.1))
   | some false => a7h P t x es (i + 1)
   | none => none
def b2w (P : Program) (H : Heap) (t : TypeId) (x i : FV) (ok : Bool) : Option FV := match mpT P t with
 | none => none
 | some (k, e) => if a8h P k i then (match x with
   | .mp l => match H l with
     | some (.map es _) => match a7h P k i es 0 with
       | some (some (_, v)) => some (if ok then .tup [v, .bool true] else v)
       | some none => (c4y P e).map fun v => if ok then .tup [v, .bool false] else v
       | none => none
     | _ => none
   | .nilm => (c4y P e).map fun v => if ok then .tup [v, .bool false] else v
   | _ => none) else none
section
variable {P : Program} {X : Ctx} {c : Cfg} {w w' : World} {F F' : Nat -> Prop} {U : Loc -> Prop} {m m' : Loc -> Nat × Nat} {s s' : Fs} {a a' : Act} {H : Heap}
theorem c0r {k e : TypeId} (h : mpT P t = some (k, e)) : P.underlying t = some (.map k e) := by
 unfold mpT at h; split at h
 . rename_i h1; simp only [A5v, A0i] at h; obtain ⟨rfl, rfl⟩ := h; exact h1
 . cases h
theorem e2s (h : c4y P t = some x) (w' : World) : ∃ z, (zeroValue t).run P w' = .ok z w' /\ RF w F U m x z := by
 unfold c4y at h
 split at h
 . rename_i i hi
   rw [A5q] at h
   obtain ⟨z, hz, rfl⟩ := h
   exact ⟨z, by simp [zeroValue, typeInfo, hi, hz], RF.cv z⟩
 . cases h
theorem b0x (h : kdT P t = some k) (b : Bool) (n : Nat) (v : Value) (w' : World) : (Instr.checkKey b (n + 1) t v).run P w' = .ok () w' := by
 unfold kdT at h
 split at h <;> first | (cases h; done) | (rename_i hu; simp only [Instr.checkKey, Sem.run_bind, run_underlying hu, Result.andThen_ok]; rfl)
theorem d9y {fs : List Field} {ks : List Kd} {i : Nat} (h : c4g P fs i = some ks) : ks.length = fs.length /\ ∀ (j : Nat) (f : Field), fs[j]? = some f -> f.offset = i + j /\ ∃ k, kdT P f.type = some k := by
 induction fs generalizing i ks with
 | nil => simp [c4g] at h; subst h; simp
 | cons f fs ih =>
   unfold c4g at h
   split at h
   case isFalse => cases h
   rename_i ho
   split at h
   case isTrue => cases h
   split at h
   case h_2 => cases h
   rename_i k hk
   rw [A5q] at h
   obtain ⟨ks', hks, rfl⟩ := h
   obtain ⟨h1, h2⟩ := ih hks
   refine ⟨by simp [h1], fun j g hg => ?_⟩
   cases j with
   | zero => simp at hg; subst hg; exact ⟨by simpa using ho, k, hk⟩
   | succ j =>
     have := h2 j g (by simpa using hg)
     exact ⟨by rw [this.1]; omega, this.2⟩
theorem b8a (fs : List Field) (cs : Array Value) (b : Bool) (n : Nat) (hf : ∀ f ∈ fs, ∃ k v, kdT P f.type = some k /\ cs[f.offset]? = some v) (w' : World) :
 ((forIn fs PUnit.unit fun f _ => do
   if f.name ≠ "_" then Instr.checkKey b (n + 1) f.type (<- part f.type cs f.offset)
   pure (ForInStep.yield PUnit.unit) : Sem PUnit).run P w') = .ok PUnit.unit w' := by
 induction fs with
 | nil => rfl
 | cons f fs ih =>
   obtain ⟨k, v, h1, h2⟩ := hf f yd
   rw [List.forIn_cons]
   have ih := ih fun g hg => hf g (by simp [hg])
   by_cases hn : f.name = "_"
   . simp only [hn, ne_eq, not_true_eq_false, if_false, Sem.run_bind, Sem.run_pure, Result.andThen_ok]
     exact ih
   . simp only [ne_eq, hn, not_false_eq_true, if_true, Sem.run_bind, c0q h1 h2, Result.andThen_ok, b0x h1, Sem.run_pure]
     exact ih
theorem a9x {v : Value} (h : a8h P t x = true) (hx : RF w F U m x v) (b : Bool) (n : Nat) (w' : World) : (Instr.checkKey b (n + 1 + 1) t v).run P w' = .ok () w' := by
 unfold a8h at h
 split at h
 . rename_i k hk; exact b0x hk b _ v w'
 . split at h
   case h_2 => cases h
   rename_i ks xs hst
   have h := of_decide_eq_true h
   unfold stT at hst
   split at hst
   case h_2 => cases hst
   rename_i fs hu
   split at hst
   case isTrue => cases hst
   obtain ⟨h1, h2⟩ := d9y hst
   cases hx with
   | agg _ vs hvs =>
   have hl := hvs.length
   have := b8a fs.toList vs.toArray b n (fun f hf => by
    obtain ⟨j, hj⟩ := List.getElem?_of_mem hf
    obtain ⟨g1, k, g2⟩ := h2 j f hj
    have hjl : j < vs.length := by
     have := (A0q.1 hj).1
     omega
    exact ⟨k, vs[j], g2, by rw [g1]; simp [hjl]⟩) w'
   rw [Instr.checkKey]
   simp only [Sem.run_bind, run_underlying hu, Result.andThen_ok]
   rw [<- Array.forIn_toList]
   simp only [Sem.run_bind] at this ⊢
   first
    | exact this
    | (rw [this]; rfl)
def Fd (w : World) (F : Nat -> Prop) (U : Loc -> Prop) (m : Loc -> Nat × Nat) : Option (Nat × FV) -> Option (Nat × Value) -> Prop
 | none, none => True
 | some (i, y), some (j, u) => i = j /\ RF w F U m y u
 | _, _ => False
theorem b0v {t : TypeId} {x : FV} {v : Value} (hx : RF w F U m x v) : ∀ (es : List (FV × FV × Nat)) (xs : List MapEntry) (i : Nat) (r : Option (Nat × FV)), a7h P t x es i = some r -> REs w F U m es xs -> ∀ w', ∃ r', (Instr.findAsking t v xs i).run P w' = .ok r' w' /\ Fd w F U m r r'
 | [], xs, i, r, h, he, w' => by
   cases he
   obtain rfl : none = r := by simpa [a7h] using h
   exact ⟨none, by simp [Instr.findAsking], trivial⟩
 | e :: es, xs, i, r, h, he, w' => by
   cases he with
   | cons _ y _ ys h1 h2 =>
   simp only [a7h] at h
   split at h
   . rename_i hq
     obtain rfl := A5o h
     exact ⟨some (i, y.val), by simp [Instr.findAsking, b7v hq hx h1.key], rfl, h1.val⟩
   . rename_i hq
     obtain ⟨r', g1, g2⟩ := b0v hx es ys (i + 1) r h h2 w'
     exact ⟨r', by simp [Instr.findAsking, b7v hq hx h1.key, g1], g2⟩
   . cases h
theorem b8z {d : TypeDesc} {b' : Bool} (hd : P.underlying t = some d) (h : eqK P t x y = some b) (hx : RF w F U m x vx) (hy : RF w F U m y vy) (h' : Instr.sameNow d vx vy = some b') : b' = b := by
 have h1 := b7v h hx hy w
 clear hx hy h
 rw [Op.equal, show Op.maxDepth = 9999 + 1 from rfl] at h1
 generalize 9999 = d9 at h1
 unfold Instr.sameNow at h'
 split at h'
 . split at h'
   . rename_i hk
     subst hk
     obtain rfl := A5o h'
     rw [run_equalIn_int w d9 t _ _ _ _ hd] at h1
     simpa using h1
   . cases h'
 . obtain rfl := A5o h'
   rw [run_equalIn_string w d9 t _ _ hd] at h1
   simpa [beq_toListBytes] using h1
 . obtain rfl := A5o h'
   rw [run_equalIn_bool' w d9 t _ _ hd] at h1
   simpa using h1
 . cases h'
theorem b7m {t : TypeId} {d : TypeDesc} (hd : P.underlying t = some d) {x : FV} {v : Value} (hx : RF w F U m x v) : ∀ (es : List (FV × FV × Nat)) (xs : List MapEntry) (i : Nat) (r : Option (Nat × FV)) (r' : Option (Nat × Value)), a7h P t x es i = some r -> REs w F U m es xs ->
 Instr.findNow d v xs i = some r' -> Fd w F U m r r'
 | [], xs, i, r, r', h, he, hf => by
   cases he
   obtain rfl : none = r := by simpa [a7h] using h
   obtain rfl : none = r' := by simpa [Instr.findNow] using hf
   trivial
 | e :: es, xs, i, r, r', h, he, hf => by
   cases he with
   | cons _ y _ ys h1 h2 =>
   simp only [a7h] at h
   simp only [Instr.findNow] at hf
   split at hf
   . rename_i hs
     obtain rfl := A5o hf
     split at h
     . obtain rfl := A5o h
       exact ⟨rfl, h1.val⟩
     . rename_i hq
       have := b8z hd hq hx h1.key hs
       cases this
     . cases h
   . rename_i hs
     split at h
     . rename_i hq
       have := b8z hd hq hx h1.key hs
       cases this
     . exact b7m hd hx es ys (i + 1) r r' h h2 hf
     . cases h
   . cases hf
theorem d2y (h : a8h P t x = true) : ∃ d, P.underlying t = some d := by
 unfold a8h at h
 cases hu : P.underlying t with
 | some d => exact ⟨d, rfl⟩
 | none => simp [kdT, stT, hu] at h
theorem a6g {v : Value} {r : Option (Nat × FV)} (hk : a8h P t x = true) (hx : RF w F U m x v) (h : a7h P t x es 0 = some r) (he : REs w F U m es xs) (w' : World) :
 ∃ r', (Instr.findKey t v xs).run P w' = .ok r' w' /\ Fd w F U m r r' := by
 obtain ⟨d, hd⟩ := d2y hk
 unfold Instr.findKey
 simp only [Sem.run_bind, run_underlying hd, Result.andThen_ok]
 split
 . rename_i r' hr
   exact ⟨r', rfl, b7m hd hx es xs 0 r r' h he hr⟩
 . exact b0v hx es xs 0 r h he w'
theorem e7d (h : HeapR w F m H) {i : FV} {v vi : Value} {ok : Bool} (hs : b2w P H t x i ok = some y) (hx : RF w F (fun l => H l ≠ none) m x v) (hi : RF w F (fun l => H l ≠ none) m i vi) :
 ∃ u, (Instr.lookup t v vi ok).run P w = .ok u w /\ RF w F (fun l => H l ≠ none) m y u := by
 unfold b2w at hs
 split at hs
 . cases hs
 rename_i k e ht
 have ht := c0r ht
 split at hs
 case isFalse => cases hs
 rename_i hk
 have done : (c4y P e).map (fun v => if ok then .tup [v, .bool false] else v) = some y -> ∃ zv, (zeroValue e).run P w = .ok zv w /\ RF w F (fun l => H l ≠ none) m y (if ok then .tuple #[zv, .bool false] else zv) := fun hz => by
  rw [A5q] at hz
  obtain ⟨z, hz, rfl⟩ := hz
  obtain ⟨zv, g1, g2⟩ := e2s (w := w) (F := F) (U := fun l => H l ≠ none) (m := m) hz w
  cases ok
  . exact ⟨zv, g1, by simpa using g2⟩
  . exact ⟨zv, g1, by simpa using RF.tup _ _ (.cons _ _ _ _ g2 (.cons _ _ _ _ (.bool false) .nil))⟩
 split at hs
 . rename_i l
   cases hx
   split at hs
   case h_2 => cases hs
   rename_i es clk hl
   obtain ⟨h0, ar, g1, g2⟩ := h.obj _ _ hl
   have hck := fun b => a9x (P := P) hk hi b 9998 w
   have hget : (getObj (m l).1).run P w = .ok (.map ar clk) w := by simp [getObj, Sem.run, g1]
   split at hs
   . rename_i j u hf
     obtain ⟨r', k1, k2⟩ := a6g hk hi hf g2 w
     cases r' with
     | none => exact k2.elim
     | some q =>
       obtain ⟨j', u'⟩ := q
       obtain ⟨_, k2⟩ := k2
       obtain rfl := A5o hs
       cases ok
       . exact ⟨u', by simp [Instr.lookup, run_underlying ht, hget, hck, k1], by simpa using k2⟩
       . exact ⟨.tuple #[u', .bool true], by simp [Instr.lookup, run_underlying ht, hget, hck, k1], by simpa using RF.tup _ _ (.cons _ _ _ _ k2 (.cons _ _ _ _ (.bool true) .nil))⟩
   . rename_i hf
     obtain ⟨r', k1, k2⟩ := a6g hk hi hf g2 w
     cases r' with
     | some q => exact k2.elim
     | none =>
       obtain ⟨zv, m1, m2⟩ := done hs
       exact ⟨_, by simp [Instr.lookup, run_underlying ht, hget, hck, k1, m1], m2⟩
   . cases hs
 . cases hx
   obtain ⟨zv, m1, m2⟩ := done hs
   have hck := fun b => a9x (P := P) hk hi b 9998 w
   obtain ⟨r', k1, k2⟩ := a6g (es := []) (xs := []) (r := none) hk hi rfl .nil w
   cases r' with
   | some q => exact k2.elim
   | none =>
     exact ⟨_, by simp [Instr.lookup, run_underlying ht, hck, k1, m1], m2⟩
 . cases hs
def arE (P : Program) (t : TypeId) : Option (Nat × TypeId) := match P.underlying t with
 | some (.array n e) => some (n, e)
 | _ => none
def c6p (P : Program) (t : TypeId) (cs : List FV) (off : Nat) : Option FV := match ldT P t with
 | some none => cs[off]?
 | some (some n) => if off + n <= cs.length then some (.agg ((cs.drop off).take n)) else none
 | none => none
theorem d0s {vs : List Value} {off : Nat} (hs : c6p P t cs off = some y) (h : RFs w F U m cs vs) (w' : World) : ∃ u, (part t vs.toArray off).run P w' = .ok u w' /\ RF w F U m y u := by
 unfold c6p at hs
 split at hs
 . rename_i ht
   obtain ⟨hagg, _⟩ := b6i ht w'
   obtain ⟨u, g1, g2⟩ := h.get off hs
   exact ⟨u, by simp [part, hagg, g1], g2⟩
 . rename_i n ht
   obtain ⟨hagg, hsz⟩ := b6i ht w'
   have hsz := a2s (hsz n rfl) w'
   split at hs
   . obtain rfl := A5o hs
     refine ⟨.agg (vs.toArray.extract off (off + n)), by simp [part, hagg, hsz], ?_⟩
     have e : (vs.toArray.extract off (off + n)) = ((vs.drop off).take n).toArray := by
      apply Array.ext'
      simp [List.take_drop]
     rw [e]
     exact .agg _ _ ((h.drop off).take n)
   . cases hs
 . cases hs
def fIdx (P : Program) (t : TypeId) (x i : FV) : Option FV := match i with
 | .int _ n => match x with
   | .agg cs => match arE P t with
     | some (len, e) => match szT P e with
       | some sz => if decide (0 <= n) && decide (n < (len : Int)) then c6p P e cs (n.toNat * sz) else none
       | none => none
     | none => none
   | .str s => if strT P t && decide (0 <= n) then (s[n.toNat]?).map fun b => .int .u8 b.toNat else none
   | _ => none
 | _ => none
theorem f6j {i : FV} {v vi : Value} (hs : fIdx P t x i = some y) (hx : RF w F U m x v) (hi : RF w F U m i vi) (w' : World) : ∃ u, (Instr.index t v vi).run P w' = .ok u w' /\ RF w F U m y u := by
 unfold fIdx at hs
 split at hs
 case h_2 => cases hs
 rename_i k n
 cases hi
 split at hs
 . rename_i cs
   split at hs
   case h_2 => cases hs
   rename_i len e hte
   split at hs
   case h_2 => cases hs
   rename_i sz hsz
   split at hs
   case isFalse => cases hs
   rename_i hc
   rw [A5t, A5w, A5w] at hc
   cases hx with
   | agg _ vs hvs =>
   obtain ⟨u, g1, g2⟩ := d0s hs hvs w'
   have hu : P.underlying t = some (.array len e) := by
    unfold arE at hte
    split at hte
    . rename_i h1; simp only [A5v, A0i] at hte; obtain ⟨rfl, rfl⟩ := hte; exact h1
    . cases hte
   exact ⟨u, by simp [Instr.index, asIntOf, run_underlying hu, hc.1, hc.2, a2s hsz, g1], g2⟩
 . split at hs
   case isFalse => cases hs
   rename_i hc
   rw [A5t, A5w] at hc
   rw [A5q] at hs
   obtain ⟨b, hb, rfl⟩ := hs
   cases hx
   exact ⟨_, by simp [Instr.index, asIntOf, run_underlying (b2b hc.1), hc.2, hb], .int _ _⟩
 . cases hs
def c6q (P : Program) (t : TypeId) (x : FV) (f : Nat) : Option FV := match P.underlying t, x with
 | some (.struct fs), .agg cs => match fs[f]? with
   | some g => c6p P g.type cs g.offset
   | none => none
 | _, _ => none
theorem d3k {f : Nat} {v : Value} (hs : c6q P t x f = some y) (hx : RF w F U m x v) (w' : World) : ∃ u, (Instr.field t v f).run P w' = .ok u w' /\ RF w F U m y u := by
 unfold c6q at hs
 split at hs
 case h_2 => cases hs
 rename_i fs cs hu
 split at hs
 case h_2 => cases hs
 rename_i g hg
 cases hx with
 | agg _ vs hvs =>
 obtain ⟨u, g1, g2⟩ := d0s hs hvs w'
 exact ⟨u, by simp [Instr.field, run_underlying hu, hg, asAgg, g1], g2⟩
def c6t (op : BinOp) (x y : FV) : Option FV := match x, y with
 | .int k a, .int k' b => match op with
   | .shl => if b < 0 then none else some (.int k (k.wrap (a * 2 ^ (min b.toNat k.bits))))
   | .shr => if b < 0 then none else some (.int k (a.fdiv (2 ^ (min b.toNat k.bits))))
   | .and => if k = k' then some (.int k (k.wrap ((BitVec.ofInt k.bits a &&& BitVec.ofInt k.bits b).toNat))) else none
   | .or => if k = k' then some (.int k (k.wrap ((BitVec.ofInt k.bits a ||| BitVec.ofInt k.bits b).toNat))) else none
   | .xor => if k = k' then some (.int k (k.wrap ((BitVec.ofInt k.bits a ^^^ BitVec.ofInt k.bits b).toNat))) else none
   | .andNot => if k = k' then some (.int k (k.wrap ((BitVec.ofInt k.bits a &&& ~~~BitVec.ofInt k.bits b).toNat))) else none
   | _ => none
 | _, _ => none
theorem e7f {x y : Operand} (h : c6t op u v = some r) (hu : RF w F U m u vx) (hv : RF w F U m v vy) :
 ∃ vr, ((do eqGuard op t x y vx vy; binOp op t vx vy : Sem Value).run P w = .ok vr w) /\ RF w F U m r vr := by
 unfold c6t at h
 split at h
 case h_2 => cases h
 rename_i k a' k' b'
 cases hu; cases hv
 split at h
 . split at h
   . cases h
   . rename_i hb
     obtain rfl := A5o h
     exact ⟨_, by simp [eqGuard, binOp, Op.shift, hb], .int _ _⟩
 . split at h
   . cases h
   . rename_i hb
     obtain rfl := A5o h
     exact ⟨_, by simp [eqGuard, binOp, Op.shift, hb], .int _ _⟩
 all_goals first
  | (cases h; done)
  | (split at h
     . rename_i hk
       subst hk
       obtain rfl := A5o h
       exact ⟨_, by simp only [eqGuard, binOp]; simp [Op.intBits], .int _ _⟩
     . cases h)
def fUn2 (op : UnOp) (x : FV) : Option FV := match op, x with
 | .xor, .int k n => some (.int k (k.wrap ((BitVec.ofInt k.bits (if k.signed then -1 else k.max) ^^^ BitVec.ofInt k.bits n).toNat)))
 | _, _ => none
theorem f6h {op : UnOp} {v : Value} (h : fUn2 op x = some y) (hx : RF w F U m x v) : ∃ u, (Op.unary op v).run P w = .ok u w /\ RF w F U m y u := by
 unfold fUn2 at h
 split at h
 . obtain rfl := A5o h
   cases hx
   exact ⟨_, by simp only [Op.unary, Op.intBits]; rfl, .int _ _⟩
 . cases h
def fNil (x : FV) : Option FV := match x with
 | .ptr .. => some x
 | .ref _ => some x
 | .clo .. => some x
 | _ => none
def fMax : FV -> List FV -> Option FV
 | x, [] => some x
 | .int k n, .int k' m :: r => if k = k' then fMax (.int k (if m > n then m else n)) r else none
 | _, _ => none
def fMin : FV -> List FV -> Option FV
 | x, [] => some x
 | .int k n, .int k' m :: r => if k = k' then fMin (.int k (if m < n then m else n)) r else none
 | _, _ => none
theorem e0g : ∀ (xs : List FV) (vs : List Value) (x y : FV) (v : Value), fMax x xs = some y -> RF w F U m x v -> RFs w F U m xs vs -> ∀ w', ∃ u, (vs.foldlM Builtin.max2 v).run P w' = .ok u w' /\ RF w F U m y u
 | [], _, x, y, v, h, hx, .nil, w' => by
   obtain rfl : x = y := by cases x <;> simpa [fMax] using h
   exact ⟨v, by simp, hx⟩
 | b :: xs, _, x, y, v, h, hx, .cons _ u _ us hu hs, w' => by
   unfold fMax at h
   split at h
   . rename_i e; cases e
   . rename_i k n k' m' r e
     simp only [A1q] at e
     obtain ⟨rfl, rfl⟩ := e
     split at h
     . rename_i hk; subst hk
       cases hx; cases hu
       obtain ⟨u', g1, g2⟩ := e0g xs us _ y _ h (.int k _) hs w'
       exact ⟨u', by rw [List.foldlM_cons]; simp only [Builtin.max2, pure_bind]; exact g1, g2⟩
     . cases h
   . cases h
theorem e0f : ∀ (xs : List FV) (vs : List Value) (x y : FV) (v : Value), fMin x xs = some y -> RF w F U m x v -> RFs w F U m xs vs -> ∀ w', ∃ u, (vs.foldlM Builtin.min2 v).run P w' = .ok u w' /\ RF w F U m y u
 | [], _, x, y, v, h, hx, .nil, w' => by
   obtain rfl : x = y := by cases x <;> simpa [fMin] using h
   exact ⟨v, by simp, hx⟩
 | b :: xs, _, x, y, v, h, hx, .cons _ u _ us hu hs, w' => by
   unfold fMin at h
   split at h
   . rename_i e; cases e
   . rename_i k n k' m' r e
     simp only [A1q] at e
     obtain ⟨rfl, rfl⟩ := e
     split at h
     . rename_i hk; subst hk
       cases hx; cases hu
       obtain ⟨u', g1, g2⟩ := e0f xs us _ y _ h (.int k _) hs w'
       exact ⟨u', by rw [List.foldlM_cons]; simp only [Builtin.min2, pure_bind]; exact g1, g2⟩
     . cases h
   . cases h
def b4i (H : Heap) (it : FV) : Option FV := match it with
 | .ptr l 0 0 0 => match H l with
   | some (.iter (.mp k) _ seen last) => match H k with
     | some (.map es clk) => if clk = last then (match seen.getLast? with
       | some st => match es.find? fun e => e.2.2 == st with
         | some e => some (.tup [e.1, e.2.1])
         | none => none
       | none => none) else none
     | _ => none
   | _ => none
 | _ => none
theorem REs.find {es : List (FV × FV × Nat)} {xs : List MapEntry} (h : REs w F U m es xs) (st : Nat) {e : FV × FV × Nat} (he : es.find? (fun e => e.2.2 == st) = some e) : ∃ x, xs.find? (fun e => e.born == st) = some x /\ RE w F U m e x := by
 induction h with
 | nil => simp at he
 | cons e' x es xs h hs ih =>
   rw [List.find?_cons] at he
   rw [List.find?_cons, h.born]
   cases hb : e'.2.2 == st
   . rw [hb] at he
     exact ih he
   . rw [hb] at he
     obtain rfl := A5o he
     exact ⟨x, rfl, h⟩
theorem e0k (h : HeapR w F m H) {it : FV} {v : Value} (hs : b4i H it = some y) (hx : RF w F (fun l => H l ≠ none) m it v) : ∃ u, (Instr.entry v).run P w = .ok u w /\ RF w F (fun l => H l ≠ none) m y u := by
 unfold b4i at hs
 split at hs
 case h_2 => cases hs
 rename_i l
 cases hx
 split at hs
 case h_2 => cases hs
 rename_i k since seen last hl
 obtain ⟨h0, q, g1, g2⟩ := h.obj _ _ hl
 cases g1 with
 | mp _ huk =>
 split at hs
 case h_2 => cases hs
 rename_i es clk hk
 obtain ⟨hk0, ar, k1, k2⟩ := h.obj _ _ hk
 split at hs
 case isFalse => cases hs
 rename_i hc
 subst hc
 split at hs
 case h_2 => cases hs
 rename_i st hst
 split at hs
 case h_2 => cases hs
 rename_i e he
 obtain rfl := A5o hs
 obtain ⟨x, hx1, hx2⟩ := k2.find st he
 have hb : seen.toArray.back? = some st := by simpa [List.getLast?_eq_getElem?] using hst
 have hf : ar.find? (fun e => e.born == st) = some x := by rw [<- hx1, <- Array.find?_toList]
 have r1 : (getObj (m l).1).run P w = .ok (.mapIter (some (m k).1) since seen.toArray clk) w := by simp [getObj, Sem.run, g2]
 have r2 : (getObj (m k).1).run P w = .ok (.map ar clk) w := by simp [getObj, Sem.run, k1]
 refine ⟨.tuple #[x.key, x.val], ?_, by simpa using RF.tup _ _ (.cons _ _ _ _ hx2.key (.cons _ _ _ _ hx2.val .nil))⟩
 simp only [Instr.entry, A4k, A3h, Sem.run_bind, r1, Result.andThen_ok, hb, r2, bne_self_eq_false, A4r, if_false, hf, Sem.run_pure]
def c6o (P : Program) (t : TypeId) (x : FV) (lo hi : Option FV) (mx : FV) : Option FV := match slT P t, lo, hi, mx with
 | some _, none, some (.int _ 0), .int _ 0 => match x with
   | .nils => some .nils
   | .emp => some .emp
   | .list .. => some .emp
   | .sl .. => some .emp
   | _ => none
 | _, _, _, _ => none
theorem d3h {mx : FV} {lo hi : Option FV} {v vm : Value} {vlo vhi : Option Value} (h : c6o P t x lo hi mx = some y) (hx : RF w F U m x v) (hm : RF w F U m mx vm)
 (hlon : lo = none -> vlo = none) (hhi : ∀ f, hi = some f -> ∃ u, vhi = some u /\ RF w F U m f u) : ∃ u, (Instr.sliceAt t v vlo vhi (some vm)).run P w = .ok u w /\ RF w F U m y u := by
 unfold c6o at h
 split at h
 case h_2 => cases h
 rename_i ex k1 k2 ht
 obtain ⟨e, sz⟩ := ex
 obtain ⟨hu, hz⟩ := a3a ht
 obtain rfl := hlon rfl
 obtain ⟨u, rfl, hu'⟩ := hhi _ rfl
 cases hu'
 cases hm
 have key : ∀ (A : Option Addr) (n c : Nat), (Instr.sliceAt t (.slice A n c) none (some (.int k1 0)) (some (.int k2 0))).run P w = .ok (.slice A 0 0) w := fun A n c => by
  simp [Instr.sliceAt, Instr.slice, run_underlying hu, Instr.sliceBounds, Instr.sliceBound, asIntOf, a2s hz]
 split at h
 . obtain rfl := A5o h
   cases hx
   exact ⟨_, key _ _ _, .nils⟩
 . obtain rfl := A5o h
   cases hx
   exact ⟨_, key _ _ _, .emp _⟩
 . obtain rfl := A5o h
   cases hx
   exact ⟨_, key _ _ _, .emp _⟩
 . obtain rfl := A5o h
   cases hx
   . exact ⟨_, key _ _ _, .emp _⟩
   . exact ⟨_, key _ _ _, .emp _⟩
 . cases h
def b3t (P : Program) (ρ : Operand -> FV) (t : TypeId) (parts : Array (Nat × Operand)) : Option FV := match a2y P t, arE P t with
 | some z, some (_, e) => match szT P e with
   | some sz => (b2u (fun i => some (i * sz, sz)) z ((parts.toList.map (·.1)).zip ((parts.toList.map (·.2)).map ρ))).map .agg
   | none => none
 | _, _ => none
def pv2 (P : Program) (H : Heap) (ρ : Operand -> FV) (o : Oper) : Option FV := match o.op with
 | .lookup t x i ok => b2w P H t (ρ x) (ρ i) ok
 | .index t x i => fIdx P t (ρ x) (ρ i)
 | .field t x f => c6q P t (ρ x) f
 | .nilCheck x => fNil (ρ x)
 | .binOp op t x y _ => match c6t op (ρ x) (ρ y) with
   | some r => some r
   | none => fCmp P op t (ρ x) (ρ y)
 | .unOp op _ x => fUn2 op (ρ x)
 | .call { callee := .builtin .max, args := ⟨x :: xs⟩, argTypes := _ } => fMax (ρ x) (xs.map ρ)
 | .call { callee := .builtin .min, args := ⟨x :: xs⟩, argTypes := _ } => fMin (ρ x) (xs.map ρ)
 | .entry it => b4i H (ρ it)
 | .build t parts => b3t P ρ t parts
 | .slice t x lo hi (some mx) => c6o P t (ρ x) (lo.map ρ) (hi.map ρ) (ρ mx)
 | _ => none
theorem g0z (h : RelX X F m s a w) (hs : pv2 P s.H (rv s) o = some y) : ∃ v, (execOp a.eval o).run P w = .ok (.value v) w /\ RF w F (fun l => s.H l ≠ none) m y v := by
 have hall : ∀ l : List Operand, RFs w F (fun l => s.H l ≠ none) m (l.map (rv s)) (l.map a.eval) := fun l => by
  induction l with
  | nil => exact .nil
  | cons x l ih => exact .cons _ _ _ _ (a1n h x) ih
 unfold pv2 at hs
 split at hs
 . rename_i t x i ok ho
   obtain ⟨v, h1, h2⟩ := e7d h.heap hs (a1n h x) (a1n h i)
   exact ⟨v, by simp [execOp, ho, h1], h2⟩
 . rename_i t x i ho
   obtain ⟨v, h1, h2⟩ := f6j hs (a1n h x) (a1n h i) w
   exact ⟨v, by simp [execOp, ho, h1], h2⟩
 . rename_i t x f ho
   obtain ⟨v, h1, h2⟩ := d3k hs (a1n h x) w
   exact ⟨v, by simp [execOp, ho, h1], h2⟩
 . rename_i x ho
   have hx := a1n h x
   generalize hv : a.eval x = v at hx
   unfold fNil at hs
   split at hs
   all_goals first
    | (cases hs; done)
    | (rename_i hq
       rw [hq] at hx
       obtain rfl := A5o hs
       rw [hq]
       exact ⟨v, by cases hx; simp [execOp, ho, hv], hx⟩)
 . rename_i op t x y ty ho
   split at hs
   . rename_i r hr
     obtain rfl := A5o hs
     obtain ⟨v, h1, h2⟩ := e7f (P := P) (t := t) (x := x) (y := y) hr (a1n h x) (a1n h y)
     refine ⟨v, ?_, h2⟩
     simp only [execOp, ho, Sem.run_bind] at h1 ⊢
     simp [h1]
   . obtain ⟨v, h1, h2⟩ := f6k (x := x) (y := y) hs (a1n h x) (a1n h y)
     refine ⟨v, ?_, h2⟩
     simp only [execOp, ho, Sem.run_bind] at h1 ⊢
     simp [h1]
 . rename_i op t x ho
   obtain ⟨v, h1, h2⟩ := f6h (P := P) hs (a1n h x)
   exact ⟨v, by simp [execOp, ho, h1], h2⟩
 . rename_i x xs ts ho
   obtain ⟨v, h1, h2⟩ := e0g (P := P) (xs.map (rv s)) (xs.map a.eval) _ _ _ hs (a1n h x) (hall xs) w
   exact ⟨v, by simp [execOp, ho, resolve, invoke, builtin, Builtin.max_, h1], h2⟩
 . rename_i x xs ts ho
   obtain ⟨v, h1, h2⟩ := e0f (P := P) (xs.map (rv s)) (xs.map a.eval) _ _ _ hs (a1n h x) (hall xs) w
   exact ⟨v, by simp [execOp, ho, resolve, invoke, builtin, Builtin.min_, h1], h2⟩
 . rename_i it ho
   obtain ⟨v, h1, h2⟩ := e0k (P := P) h.heap hs (a1n h it)
   exact ⟨v, by simp [execOp, ho, h1], h2⟩
 . rename_i t parts ho
   unfold b3t at hs
   split at hs
   case h_2 => cases hs
   rename_i z n e hz hte
   split at hs
   case h_2 => cases hs
   rename_i sz hsz
   rw [A5q] at hs
   obtain ⟨r, hr, rfl⟩ := hs
   have hu : P.underlying t = some (.array n e) := by
    unfold arE at hte
    split at hte
    . rename_i h1; simp only [A5v, A0i] at hte; obtain ⟨rfl, rfl⟩ := hte; exact h1
    . cases hte
   obtain ⟨ie, hie, rfl⟩ : ∃ ie, P.info? e = some ie /\ ie.size = sz := by
    unfold szT at hsz
    rw [A5q] at hsz
    exact hsz
   unfold a2y at hz
   split at hz
   case h_2 => cases hz
   rename_i it hit
   split at hz
   case h_2 => cases hz
   rename_i zv hzv
   obtain rfl := A5o hz
   have hparts : (parts.map fun (i, x) => (i, a.eval x)).toList = (parts.toList.map (·.1)).zip ((parts.toList.map (·.2)).map a.eval) := by
    rw [Array.toList_map]
    generalize parts.toList = l
    induction l with
    | nil => rfl
    | cons x l ih => obtain ⟨i, x⟩ := x; simp only [A1m, A3q, ih]
   obtain ⟨cells', k1, k2⟩ := c1s (w := w) (F := F) (U := fun l => s.H l ≠ none) (m := m) (fun i => some (i * ie.size, ie.size)) (parts.toList.map (·.1)) _ _ _ r zv.cells yd (hall (parts.toList.map (·.2))) (RFs.cv1s _) hr
   have hb : P.built t (parts.map fun (i, x) => (i, a.eval x)).toList = some cells' := by
    unfold Program.built
    simp only [hit, hu, hzv, hie]
    rw [hparts]
    exact k1
   refine ⟨.agg cells', by simp only [execOp, ho, Sem.run_bind]; rw [run_build w t _ cells' hb]; rfl, ?_⟩
   simpa using RF.agg r cells'.toList k2
 . rename_i t x lo hi mx ho
   obtain ⟨v, h1, h2⟩ := d3h (P := P) (vlo := lo.map a.eval) (vhi := hi.map a.eval) hs (a1n h x) (a1n h mx) (fun e => by simpa using e) (fun f hf => by
    rw [A5q] at hf
    obtain ⟨z, rfl, rfl⟩ := hf
    exact ⟨_, rfl, a1n h z⟩)
   exact ⟨v, by simp [execOp, ho, h1], h2⟩
 . cases hs
def pv (P : Program) (H : Heap) (ρ : Operand -> FV) (o : Oper) : Option FV := match pv1 P H ρ o with
 | some y => some y
 | none => pv2 P H ρ o
theorem g7l (h : RelX X F m s a w) (hs : pv P s.H (rv s) o = some y) : ∃ v, (execOp a.eval o).run P w = .ok (.value v) w /\ RF w F (fun l => s.H l ≠ none) m y v := by
 unfold pv at hs
 split at hs
 . rename_i z hz
   obtain rfl := A5o hs
   exact g1a h hz
 . exact g0z h hs
end
def Ran (P : Program) (o : Oper) (a : Act) (w : World) (v : Value) (w' : World) : Prop :=
 (execOp a.eval o).run P w = .ok (.value v) w' \/ ((execOp a.eval o).run P w = .ok .skip w' /\ v = undef)
def putD (c : Cfg) (o : Oper) (x : FV) (s : Fs) : Option Fs := match o.dst with
 | none => some s
 | some d => if d < c.N then some (s.put d x) else none
def Snd (P : Program) (c : Cfg) (o : Oper) (s s' : Fs) : Prop :=
 ∀ (X : Ctx) (F : Nat -> Prop) (m : Loc -> Nat × Nat) (a : Act) (w : World), a.tmps.size = c.N -> RelX X F m s a w ->
   ∃ (m' : Loc -> Nat × Nat) (v : Value) (w' : World), Ran P o a w v w' /\ RelX X F m' s' (a.put o.dst v) w'
section
variable {P : Program} {X : Ctx} {c : Cfg} {w w' : World} {F F' : Nat -> Prop} {m m' : Loc -> Nat × Nat} {s s' : Fs} {a a' : Act} {o : Oper}
theorem c0p {v : Value} (h : RelX X F m s a w) (hN : a.tmps.size = c.N) (hx : RF w F (fun l => s.H l ≠ none) m x v) (hs : putD c o x s = some s') : RelX X F m s' (a.put o.dst v) w := by
 unfold putD at hs
 split at hs
 . rename_i hd
   obtain rfl : s = s' := by simpa using hs
   rw [hd]; exact h
 . rename_i d hd
   split at hs
   . rename_i hlt
     obtain rfl : s.put d x = s' := by simpa using hs
     rw [hd]
     exact h.put (hN ▸ hlt) hx
   . cases hs
theorem b3k (t : TypeId) (v : Value) (w : World) : (newVar t v).run P w = .ok ⟨w.heap.size, 0, none⟩ (w.alloc (.cells v.cells t (0, 0))) := by
 simp [newVar, newRow]
end
def a5c {α : Type} (sz : Nat) : Nat -> List α -> List (List α)
 | 0, _ => []
 | n + 1, l => l.take sz :: a5c sz n (l.drop sz)
theorem b2x {α : Type} (sz : Nat) : ∀ (n : Nat) (l : List α), (a5c sz n l).length = n
 | 0, _ => rfl
 | n + 1, l => by simp [a5c, b2x sz n]
theorem b0w {α : Type} (sz : Nat) : ∀ (n : Nat) (l : List α), l.length = n * sz -> (a5c sz n l).flatten = l
 | 0, l, h => by have : l = [] := A5u zl; subst this; rfl
 | n + 1, l, h => by
   rw [a5c, A0l, b0w sz n (l.drop sz) (by rw [A1y, h, A1d]; omega), A2z]
theorem b9p {α : Type} (sz : Nat) : ∀ (n : Nat) (l : List α), l.length = n * sz -> ∀ x ∈ a5c sz n l, x.length = sz
 | 0, l, h => by simp [a5c]
 | n + 1, l, h => by
   intro x hx
   rw [a5c] at hx
   rcases A0m.1 hx with rfl | hx
   . rw [A0j, h, A1d]; omega
   . exact b9p sz n (l.drop sz) (by rw [A1y, h, A1d]; omega) x hx
section
variable {P : Program} {X : Ctx} {c : Cfg} {w w' : World} {F F' : Nat -> Prop} {U : Loc -> Prop} {m m' : Loc -> Nat × Nat} {s s' : Fs} {a a' : Act} {o : Oper}
theorem RFs.of_get : ∀ {as : List FV} {vs : List Value}, as.length = vs.length -> (∀ (i : Nat) (x : FV) (v : Value), as[i]? = some x -> vs[i]? = some v -> RF w F U m x v) -> RFs w F U m as vs
 | [], [], _, _ => .nil
 | x :: as, v :: vs, hl, h => .cons x v as vs (h 0 x v yd yd) (RFs.of_get z1r fun i y u hy hu => h (i + 1) y u (by simpa using hy) (by simpa using hu))
 | [], _ :: _, hl, _ => by simp at hl
 | _ :: _, [], hl, _ => by simp at hl
theorem f3u {α : Type} {z : List α} {j : Nat} (hj : j < n * z.length) : (List.replicate n z).flatten[j]? = z[j % z.length]? := by
 have hz : 0 < z.length := by
  rcases A1v z.length with h | h
  . rw [h] at hj; simp at hj
  . exact h
 have hq : j / z.length < n := Nat.div_lt_of_lt_mul (by rw [Nat.mul_comm]; exact hj)
 have := d0q z.length (List.replicate n z) (j / z.length) (j % z.length) z (fun x hx => by rw [A2r hx]) (by simp [hq]) (Nat.mod_lt _ hz)
 rw [<- this]
 congr 1
 rw [Nat.mul_comm]
 exact (Nat.div_add_mod j z.length).symm
theorem RelX.row (h : RelX X F m s a w) {cells : Array Value} {T : TypeId} {rows : List (List FV)} (hl : s.H l = none) (hr : RFs w F (fun k => s.H k ≠ none) m rows.flatten cells.toList)
 (hlen : ∀ x ∈ rows, x.length = sz) (hsz : rows.length * sz = cells.size) (h0 : 0 < sz) :
 RelX X F (fun k => if k = l then (w.heap.size, cells.size) else m k) { s with H := upd s.H l (.cells T sz rows) } a (w.alloc (.cells cells T (0, 0))) := by
 by_cases hc : cells.size = 0
 . have hrow : rows = [] := by
    rw [hc] at hsz
    rcases Nat.mul_eq_zero.1 hsz with h1 | h1
    . exact A5u h1
    . omega
   subst hrow
   have hold : ∀ b, b < w.heap.size -> (w.alloc (.cells cells T (0, 0))).heap[b]? = w.heap[b]? := fun b hb => by
    show (w.heap.push _)[b]? = _
    rw [A5g, if_neg ya]
   exact h.fresh hl z2s hold rfl rfl rfl (.inl ⟨rfl, by simp [hc]⟩)
 . exact h.alloc hl (by rw [hsz]; rw [A6a yd]; exact hr) hlen (Nat.le_of_eq hsz) hc
def upds (H : Heap) (us : LF) : Heap := us.foldl (fun H u => upd H u.1 u.2) H
theorem d4i (us : LF) : ∀ {H : Heap} {l : Loc}, H l ≠ none -> upds H us l ≠ none := by
 induction us with
 | nil => exact fun h => h
 | cons u us ih => exact fun {H l} h => ih (H := upd H u.1 u.2) (by unfold upd; split <;> simp [h])
def WOk (P : Program) (s : Fs) (o : Oper) (us : LF) (v : FV) : Prop :=
 ∀ (X : Ctx) (F : Nat -> Prop) (m : Loc -> Nat × Nat) (a : Act) (w : World), RelX X F m s a w ->
   ∃ (m' : Loc -> Nat × Nat) (u : Value) (w' : World), Ran P o a w u w' /\ RelX X F m' { s with H := upds s.H us } a w' /\ RF w' F (fun l => upds s.H us l ≠ none) m' v u
theorem WOk.snd (h : WOk P s o us v) (hs : putD c o v { s with H := upds s.H us } = some s') : Snd P c o s s' := by
 intro X F m a w hN hr
 obtain ⟨m', u, w', h1, h2, h3⟩ := h X F m a w hr
 exact ⟨m', u, w', h1, c0p h2 hN h3 hs⟩
theorem d5w (h : RelX X F m s a w) {cells : Array Value} {T : TypeId} {rows : List (List FV)} (hl : s.H l = none) (hr : RFs w F (fun k => s.H k ≠ none) m rows.flatten cells.toList)
 (hlen : ∀ x ∈ rows, x.length = sz) (hrl : rows.length = n) (hsz : n * sz = cells.size) (h0 : 0 < sz) (len : Nat) (hle : len <= n) :
 ∃ m', RelX X F m' { s with H := upds s.H [(l, .cells T sz rows)] } a (w.alloc (.cells cells T (0, 0))) /\ RF (w.alloc (.cells cells T (0, 0))) F (fun k => upds s.H [(l, .cells T sz rows)] k ≠ none) m' (.sl l sz 0 len) (.slice (some ⟨w.heap.size, 0, none⟩) len n) := by
 refine ⟨_, h.row (T := T) hl hr hlen (by rw [hrl]; exact hsz) h0, ?_⟩
 have := RF.sl (w := w.alloc (.cells cells T (0, 0))) (F := F) (U := fun k => upds s.H [(l, .cells T sz rows)] k ≠ none) (m := fun k => if k = l then (w.heap.size, cells.size) else m k) l sz 0 len n 0 z1d hle (.inr yd) (by simp [hsz])
 simpa using this
def a5u (P : Program) (H : Heap) (ρ : Operand -> FV) (nm : Loc) (t : TypeId) (len : Nat) (parts : Array (Nat × Operand)) : Option (LF × FV) := match slT P t with
 | some (e, sz) => match a2y P e with
   | some z => if (decide (z.length = sz) && (decide (0 < sz) && decide (len * sz <= 16777216))) && (H nm).isNone then
    (b2u (fun i => some (i * sz, sz)) (List.replicate len z).flatten ((parts.toList.map (·.1)).zip ((parts.toList.map (·.2)).map ρ))).bind fun r =>
     if r.length = len * sz then some ([(nm, .cells e sz (a5c sz len r))], .sl nm sz 0 len) else none
    else none
   | none => none
 | none => none
theorem d5r (h : RelX X F m s a w) : ∀ l : List Operand, RFs w F (fun l => s.H l ≠ none) m (l.map (rv s)) (l.map a.eval)
 | [] => .nil
 | x :: l => .cons _ _ _ _ (a1n h x) (d5r h l)
theorem b9w {z : List FV} {zc : Array Value} {len : Nat} (h0 : 0 < sz) (hzl : z.length = sz) (hzs : zc.size = sz) (hz : RFs w F U m z zc.toList) :
 RFs w F U m (List.replicate len z).flatten ((Array.range (len * sz)).map fun k => zc[k % zc.size]!).toList := by
 have hfl : (List.replicate len z).flatten.length = len * sz := by rw [a3q sz _ (fun x hx => by rw [A2r hx]; exact hzl)]; simp
 refine RFs.of_get (by rw [hfl]; simp) fun i x v hx hv => ?_
 have hi : i < len * sz := by rw [<- hfl]; exact (A0q.1 hx).1
 rw [f3u (by rw [hzl]; exact hi), hzl] at hx
 have hmod : i % sz < sz := Nat.mod_lt _ h0
 obtain ⟨u, k1, k2⟩ := hz.get (i % sz) hx
 have hv' : v = zc[i % sz]! := by
  rw [A2m, Array.getElem?_map, Array.getElem?_range, if_pos hi] at hv
  simp only [A0s, A5v] at hv
  rw [<- hv, hzs]
 have hu' : zc[i % sz]! = u := by
  rw [A2m] at k1
  rw [Array.getElem!_eq_getD, A2x, k1]; rfl
 rw [hv', hu']; exact k2
theorem d1z {len : Nat} {parts : Array (Nat × Operand)} (hs : a5u P s.H (rv s) nm t len parts = some (us, v)) (ho : o.op = .buildSlice t len parts) : WOk P s o us v := by
 intro X F m a w h
 unfold a5u at hs
 split at hs
 case h_2 => cases hs
 rename_i e sz ht
 obtain ⟨hu, hz⟩ := a3a ht
 split at hs
 case h_2 => cases hs
 rename_i z hzc
 split at hs
 case isFalse => cases hs
 rename_i hc
 simp only [A5t, A5w, A1i] at hc
 obtain ⟨⟨hzl, h0, h24⟩, hnm⟩ := hc
 rw [A1h] at hs
 obtain ⟨r, hr, hs⟩ := hs
 split at hs
 case isFalse => cases hs
 rename_i hrl
 simp only [A5v, A0i] at hs
 obtain ⟨rfl, rfl⟩ := hs
 obtain ⟨zv, g1, g2, g3⟩ := b4v (w := w) (F := F) (U := fun k => s.H k ≠ none) (m := m) hzc
 have hzs : zv.cells.size = sz := by omega
 have hbase := b9w (len := len) h0 hzl hzs g2
 obtain ⟨cells', k1, k2⟩ := c1s (w := w) (F := F) (U := fun k => s.H k ≠ none) (m := m) (fun i => some (i * sz, sz)) (parts.toList.map (·.1)) _ _ _ r _ yd (d5r h (parts.toList.map (·.2))) hbase hr
 have hparts : (parts.map fun (i, x) => (i, a.eval x)).toList = (parts.toList.map (·.1)).zip ((parts.toList.map (·.2)).map a.eval) := by
  rw [Array.toList_map]
  generalize parts.toList = q
  induction q with
  | nil => rfl
  | cons x q ih => obtain ⟨i, x⟩ := x; simp only [A1m, A3q, ih]
 have hcs : cells'.size = len * sz := by have := k2.length; rw [hrl] at this; simpa using this.symm
 obtain ⟨m', h1, h2⟩ := d5w h (T := e) (cells := cells') (rows := a5c sz len r) (sz := sz) (n := len) hnm (by rw [b0w sz len r hrl]; exact k2) (b9p sz len r hrl) (b2x sz len r) (by rw [hcs]) h0 len (A5s _)
 have hrun : (Instr.buildSlice t len (parts.map fun (i, x) => (i, a.eval x))).run P w = .ok (.slice (some ⟨w.heap.size, 0, none⟩) len len) (w.alloc (.cells cells' e (0, 0))) := by
  have h24' : ¬ (16777216 < len * sz) := by omega
  have hfill : Instr.fill (fun i => some (i * sz, sz)) ((Array.range (len * sz)).map fun k => zv.cells[k % zv.cells.size]!) (parts.map fun (i, x) => (i, a.eval x)).toList = some cells' := by rw [hparts]; exact k1
  by_cases hz0 : len * sz = 0
  . have e2 : ∀ f : Nat -> Value, (Array.range 0).map f = #[] := fun f => by simp
    rw [hz0, e2] at hfill
    simp only [Instr.buildSlice, Sem.run_bind, run_underlying hu, Result.andThen_ok, a2s hz, h24', if_false, hz0, if_true, Sem.run_pure, e2, hfill, newRow]
    simp
  . simp only [Instr.buildSlice, Sem.run_bind, run_underlying hu, Result.andThen_ok, a2s hz, h24', if_false, hz0, g1, Sem.run_pure, hfill, newRow]
    simp
 exact ⟨m', _, _, .inl (by simp only [execOp, ho, Sem.run_bind, hrun]; rfl), h1, h2⟩
end
section
variable {P : Program} {X : Ctx} {c : Cfg} {w w' : World} {F F' : Nat -> Prop} {U : Loc -> Prop} {m m' : Loc -> Nat × Nat} {s s' : Fs} {a a' : Act} {o : Oper}
def b4b (P : Program) (H : Heap) (nm : Loc) (t : TypeId) : Option (LF × FV) := match a2y P t with
 | some cs => if (H nm).isNone then (if cs.isEmpty then some ([(nm, .cells t 0 [])], .ptr nm 0 0 0) else some ([(nm, .cells t cs.length [cs])], .ptr nm cs.length 0 0)) else none
 | none => none
def wBox (H : Heap) (nm : Loc) (t : TypeId) (x : FV) : Option (LF × FV) :=
 if (x.storable && !x.cellsL.isEmpty) && (H nm).isNone then some ([(nm, .cells t x.cellsL.length [x.cellsL])], .ptr nm x.cellsL.length 0 0) else none
def a6u (P : Program) (H : Heap) (t : TypeId) (ad x : FV) : Option (LF × FV) := match szT P t, ad with
 | some 0, .ptr .. => match x with
   | .agg [] => some ([], .undef)
   | _ => none
 | some n, .ptr l sz i off => match H l with
   | some (.cells T sz' xs) => match xs[i]? with
     | some r => if decide (sz' = sz) && (decide (x.cellsL.length = n) && (x.storable && decide (off + n <= r.length))) then
      some ([(l, .cells T sz (xs.modify i fun r => r.take off ++ x.cellsL ++ r.drop (off + x.cellsL.length)))], .undef) else none
     | none => none
   | _ => none
 | _, _ => none
theorem g1r (h : RelX X F m s a w) {v : Value} (hl : s.H l = none) (hcs : RFs w F (fun k => s.H k ≠ none) m cs v.cells.toList) (h0 : cs ≠ []) :
 ∃ m', RelX X F m' { s with H := upds s.H [(l, .cells t cs.length [cs])] } a (w.alloc (.cells v.cells t (0, 0))) /\ RF (w.alloc (.cells v.cells t (0, 0))) F (fun k => upds s.H [(l, .cells t cs.length [cs])] k ≠ none) m' (.ptr l cs.length 0 0) (.pointer (some ⟨w.heap.size, 0, none⟩)) := by
 have hlen := hcs.length
 have hsz : v.cells.size = cs.length := by rw [hlen]; simp
 have hpos : 0 < cs.length := List.length_pos_iff.2 h0
 refine ⟨_, h.alloc (T := t) (cells := v.cells) (rows := [cs]) (sz := cs.length) hl (by
  simp only [A0l, List.flatten_nil, A3x, A1a, A3w, A3u, A3b]
  rw [A6a (by simp [hsz])]
  exact hcs) yd (by simp [hsz]) ya, ?_⟩
 have := RF.ptr (w := w.alloc (.cells v.cells t (0, 0))) (F := F) (U := fun k => upds s.H [(l, .cells t cs.length [cs])] k ≠ none) (m := fun k => if k = l then (w.heap.size, v.cells.size) else m k) l cs.length 0 0 z1d
 simpa using this
theorem d4e (hs : b4b P s.H nm t = some (us, v)) (ho : o.op = .alloc t) : WOk P s o us v := by
 intro X F m a w h
 unfold b4b at hs
 split at hs
 case h_2 => cases hs
 rename_i cs hz
 split at hs
 case isFalse => cases hs
 rename_i hc
 simp only [A1i] at hc
 obtain ⟨z, hz1, hz2, hz3⟩ := b4v (w := w) (F := F) (U := fun k => s.H k ≠ none) (m := m) hz
 split at hs
 . rename_i he
   simp only [A5v, A0i] at hs
   obtain ⟨rfl, rfl⟩ := hs
   have hcs : cs = [] := by simpa using he
   have hz0 : z.cells.size = 0 := by rw [<- hz3, hcs]; rfl
   have hold : ∀ b, b < w.heap.size -> (w.alloc (.cells z.cells t (0, 0))).heap[b]? = w.heap[b]? := fun b hb => by
    show (w.heap.push _)[b]? = _
    rw [A5g, if_neg ya]
   have hR := h.fresh (l := nm) (o := .cells t 0 []) (n := 0) (w' := w.alloc (.cells z.cells t (0, 0))) hc z2s hold rfl rfl rfl (.inl ⟨rfl, by simp⟩)
   refine ⟨_, .pointer (some ⟨w.heap.size, 0, none⟩), _, .inl (by simp [execOp, ho, Instr.alloc, hz1, b3k]), hR, ?_⟩
   have := RF.ptr (w := w.alloc (.cells z.cells t (0, 0))) (F := F) (U := fun k => upds s.H [(nm, .cells t 0 [])] k ≠ none) (m := fun k => if k = nm then (w.heap.size, 0) else m k) nm 0 0 0 z1d
   simpa using this
 . rename_i he
   simp only [A5v, A0i] at hs
   obtain ⟨rfl, rfl⟩ := hs
   obtain ⟨m', h1, h2⟩ := g1r (t := t) h hc hz2 (by simpa using he)
   exact ⟨m', _, _, .inl (by simp [execOp, ho, Instr.alloc, hz1, b3k]), h1, h2⟩
theorem f1r {x : Operand} (hs : wBox s.H nm t (rv s x) = some (us, v)) (ho : o.op = .box t x) : WOk P s o us v := by
 intro X F m a w h
 unfold wBox at hs
 split at hs
 case isFalse => cases hs
 rename_i hc
 simp only [A5t, A4x, List.isEmpty_eq_false_iff, A1i] at hc
 simp only [A5v, A0i] at hs
 obtain ⟨rfl, rfl⟩ := hs
 obtain ⟨g1, g2⟩ := (a1n h x).cells hc.1.1
 obtain ⟨m', h1, h2⟩ := g1r (t := t) h hc.2 g1 hc.1.2
 exact ⟨m', _, _, .inl (by simp [execOp, ho, Instr.box, b3k]), h1, h2⟩
theorem d3x {ad x : Operand} (hs : a6u P s.H t (rv s ad) (rv s x) = some (us, v)) (ho : o.op = .store t ad x) : WOk P s o us v := by
 intro X F m a w h
 unfold a6u at hs
 split at hs
 case h_3 => cases hs
 case h_1 =>
  rename_i l sz i off hz hp
  split at hs
  case h_2 => cases hs
  rename_i hx
  simp only [A5v, A0i] at hs
  obtain ⟨rfl, rfl⟩ := hs
  have hxv := a1n h x
  rw [hx] at hxv
  have had := a1n h ad
  rw [hp] at had
  generalize hxe : a.eval x = vx at hxv
  generalize hva : a.eval ad = va at had
  cases hxv with
  | agg _ vs hvs =>
  cases hvs
  cases had
  exact ⟨m, undef, w, .inr ⟨by simp [execOp, ho, hva, hxe, Instr.storeAt, Instr.sureAddr, storeVar, a2s hz, Value.cells, storeCells], rfl⟩, h, .undef _⟩
 rename_i n l sz i off _ hz hp
 split at hs
 case h_2 => cases hs
 rename_i T sz' xs hl
 split at hs
 case h_2 => cases hs
 rename_i r hr
 split at hs
 case isFalse => cases hs
 rename_i hc
 simp only [A5t, A5w] at hc
 obtain ⟨rfl, hn, hst, hle⟩ := hc
 simp only [A5v, A0i] at hs
 obtain ⟨rfl, rfl⟩ := hs
 obtain ⟨g1, g2⟩ := (a1n h x).cells hst
 have had := a1n h ad
 rw [hp] at had
 generalize hva : a.eval ad = va at had
 cases had
 have hlen := g1.length
 obtain ⟨w', k1, k2⟩ := h.store (P := P) (off := off) hl hr ya g1 (g1.one g2)
 have hsz : (a.eval x).cells.size = n := by rw [<- hn, hlen]; simp
 exact ⟨m, undef, w', .inr ⟨by simp [execOp, ho, hva, Instr.storeAt, Instr.sureAddr, storeVar, a2s hz, hsz, k1], rfl⟩, k2, .undef _⟩
def b4a (P : Program) (H : Heap) (nm : Loc) (t : TypeId) (x y : FV) : Option (LF × FV) := match slT P t, x, y with
 | some (e, sz), .int _ len, .int _ cap => match a2y P e, byT P e with
   | some z, some by_ => if ((decide (z.length = sz) && decide (0 < sz)) && ((decide (0 <= len) && decide (len <= cap)) && (decide (cap <= 4611686018427387904) && decide ((by_ : Int) * cap <= 281474976710656)))) && (H nm).isNone then
    some ([(nm, .cells e sz (List.replicate cap.toNat z))], .sl nm sz 0 len.toNat) else none
   | _, _ => none
 | _, _, _ => none
theorem d4b {x y : Operand} (hs : b4a P s.H nm t (rv s x) (rv s y) = some (us, v)) (ho : o.op = .makeSlice t x y) : WOk P s o us v := by
 intro X F m a w h
 unfold b4a at hs
 split at hs
 case h_2 => cases hs
 rename_i e sz k1 len k2 cap ht hx hy
 obtain ⟨hu, hz⟩ := a3a ht
 split at hs
 case h_2 => cases hs
 rename_i z by_ hzc hby
 obtain ⟨i, hi, rfl⟩ := d1g hby
 split at hs
 case isFalse => cases hs
 rename_i hc
 simp only [A5t, A5w, A1i] at hc
 obtain ⟨⟨⟨hzl, h0⟩, ⟨hl0, hlc⟩, hc62, hb⟩, hnm⟩ := hc
 simp only [A5v, A0i] at hs
 obtain ⟨rfl, rfl⟩ := hs
 have hxv := a1n h x
 have hyv := a1n h y
 rw [hx] at hxv
 rw [hy] at hyv
 generalize hxe : a.eval x = vx at hxv
 generalize hye : a.eval y = vy at hyv
 cases hxv; cases hyv
 obtain ⟨zv, g1, g2, g3⟩ := b4v (w := w) (F := F) (U := fun k => s.H k ≠ none) (m := m) hzc
 have hzs : zv.cells.size = sz := by omega
 have hbase := b9w (len := cap.toNat) h0 hzl hzs g2
 obtain ⟨m', h1, h2⟩ := d5w h (T := e) (cells := (Array.range (cap.toNat * sz)).map fun k => zv.cells[k % zv.cells.size]!) (rows := List.replicate cap.toNat z) (sz := sz) (n := cap.toNat) hnm hbase
  (fun x hx => by rw [A2r hx]; exact hzl) yd yd h0 len.toNat ya
 have hw1 : IntKind.i64.wrap len = len := by rw [IntKind.wrap_i64]; omega
 have hw2 : IntKind.i64.wrap cap = cap := by rw [IntKind.wrap_i64]; omega
 have hrun : (Instr.makeSlice t (.int k1 len) (.int k2 cap)).run P w = .ok (.slice (some ⟨w.heap.size, 0, none⟩) len.toNat cap.toNat) (w.alloc (.cells ((Array.range (cap.toNat * sz)).map fun k => zv.cells[k % zv.cells.size]!) e (0, 0))) := by
  have c1 : ¬ cap < 0 := by omega
  have c2 : ¬ (281474976710656 < (i.bytes : Int) * cap) := by omega
  have c3 : ¬ len < 0 := by omega
  have c4 : ¬ cap < len := by omega
  by_cases hz0 : cap.toNat * sz = 0
  . have e2 : ∀ f : Nat -> Value, (Array.range 0).map f = #[] := fun f => by simp
    simp only [hz0, e2]
    simp [Instr.makeSlice, run_underlying hu, asInt, asIntOf, hw1, hw2, typeInfo, hi, a2s hz, hz0, c1, c2, c3, c4, newRow]
    rw [e2]
  . simp [Instr.makeSlice, run_underlying hu, asInt, asIntOf, hw1, hw2, typeInfo, hi, a2s hz, hz0, c1, c2, c3, c4, g1, newRow]
 exact ⟨m', _, _, .inl (by simp only [execOp, ho, hxe, hye, Sem.run_bind, hrun]; rfl), h1, h2⟩
theorem RelX.obj (h : RelX X F m s a w) {ob : Obj} {o : FO} (hl : s.H l = none) (ho : OR (w.alloc ob) F (upd s.H l o) (fun k => if k = l then (w.heap.size, n) else m k) l o) :
 RelX X F (fun k => if k = l then (w.heap.size, n) else m k) { s with H := upd s.H l o } a (w.alloc ob) := by
 obtain ⟨_, h2⟩ := MapKept.heap_alloc w ob
 exact h.fresh hl z2s h2 rfl rfl rfl ho
theorem RelX.turn (h : RelX X F m s a w) {o0 o : FO} {ob0 ob : Obj} (hl : s.H l = some o0) (hne0 : o0 ≠ .dead) (h0 : (m l).2 ≠ 0) (hne : o ≠ .dead) (hob : w.heap[(m l).1]? = some ob0)
 (ho : ∀ w' : World, w'.heap[(m l).1]? = some ob -> (∀ b, b ≠ (m l).1 -> w'.heap[b]? = w.heap[b]?) -> OR w' F (upd s.H l o) m l o) :
 RelX X F m { s with H := upd s.H l o } a { w with heap := w.heap.setIfInBounds (m l).1 ob } := by
 obtain ⟨g1, g2⟩ := MapKept.heap_set (o' := ob) hob
 exact h.write hl ⟨o0, hl, hne0, h0⟩ hne yd (fun b _ hb => g2 b hb) rfl rfl rfl (ho _ g1 g2)
theorem a5r {l : Nat} {es : Array MapEntry} {clk : Nat} (h : w.heap[l]? = some (.map es clk)) : (getObj l).run P w = .ok (.map es clk) w := by simp [getObj, Sem.run, h]
theorem b3d {l : Nat} {es : Array MapEntry} {clk : Nat} (o : Obj) (h : w.heap[l]? = some (.map es clk)) : (setObj l o).run P w = .ok () { w with heap := w.heap.setIfInBounds l o } := by simp [setObj, Sem.run, h]
theorem b1c {l : Nat} {q : Option Nat} {since last : Nat} {seen : Array Nat} (h : w.heap[l]? = some (.mapIter q since seen last)) : (getObj l).run P w = .ok (.mapIter q since seen last) w := by simp [getObj, Sem.run, h]
theorem c5q {l : Nat} {q : Option Nat} {since last : Nat} {seen : Array Nat} (o : Obj) (h : w.heap[l]? = some (.mapIter q since seen last)) : (setObj l o).run P w = .ok () { w with heap := w.heap.setIfInBounds l o } := by simp [setObj, Sem.run, h]
def b1y (P : Program) (H : Heap) (nm : Loc) (r : Option FV) : Option (LF × FV) := match r with
 | none => if (H nm).isNone then some ([(nm, .map [] 0)], .mp nm) else none
 | _ => none
theorem d4c {r : Option Operand} (hs : b1y P s.H nm (r.map (rv s)) = some (us, v)) (ho : o.op = .makeMap t r) : WOk P s o us v := by
 intro X F m a w h
 cases r with
 | some r => simp [b1y] at hs
 | none =>
 simp only [b1y, A5e] at hs
 split at hs
 case isFalse => cases hs
 rename_i hc
 simp only [A1i] at hc
 simp only [A5v, A0i] at hs
 obtain ⟨rfl, rfl⟩ := hs
 obtain ⟨g1, _⟩ := MapKept.heap_alloc w (.map #[] 0)
 refine ⟨_, .map (some w.heap.size), _, .inl (by simp [execOp, ho, Instr.makeMap]), h.obj (n := 1) (ob := .map #[] 0) (o := .map [] 0) hc ⟨by simp, #[], by simpa using g1, .nil⟩, ?_⟩
 have := RF.mp (w := w.alloc (.map #[] 0)) (F := F) (U := fun k => upds s.H [(nm, .map [] 0)] k ≠ none) (m := fun k => if k = nm then (w.heap.size, 1) else m k) nm z1d
 simpa using this
def b0z (P : Program) (H : Heap) (t : TypeId) (x k v : FV) : Option (LF × FV) := match mpT P t, x with
 | some (kt, _), .mp l => match H l with
   | some (.map es clk) => if a8h P kt k then (match a7h P kt k es 0 with
     | some (some (i, _)) => some ([(l, .map (es.modify i fun e => (k, v, e.2.2)) clk)], .undef)
     | some none => some ([(l, .map (es ++ [(k, v, clk)]) (clk + 1))], .undef)
     | none => none) else none
   | _ => none
 | _, _ => none
theorem REs.modify (h : REs w F U m es xs) {k : FV} {vk vv : Value} (hk : RF w F U m k vk) (hv : RF w F U m v vv) (i : Nat) :
 REs w F U m (es.modify i fun e => (k, v, e.2.2)) (xs.modify i fun e => { e with key := vk, val := vv }) := by
 induction h generalizing i with
 | nil => simpa using REs.nil
 | cons e x es xs h hs ih =>
   cases i with
   | zero => simpa using REs.cons (k, v, e.2.2) { x with key := vk, val := vv } _ _ ⟨hk, hv, h.born⟩ hs
   | succ i => simpa using REs.cons _ _ _ _ h (ih i)
theorem REs.get (h : REs w F U m es xs) {i : Nat} {e : FV × FV × Nat} (he : es[i]? = some e) : ∃ x, xs[i]? = some x /\ RE w F U m e x := by
 induction h generalizing i with
 | nil => simp at he
 | cons e' x es xs h hs ih =>
   cases i with
   | zero => simp at he; subst he; exact ⟨x, by simp, h⟩
   | succ i =>
     obtain ⟨y, g1, g2⟩ := ih (by simpa using he)
     exact ⟨y, by simpa using g1, g2⟩
theorem b9m {t : TypeId} {k : FV} : ∀ {es : List (FV × FV × Nat)} {i : Nat} {j : Nat} {v : FV}, a7h P t k es i = some (some (j, v)) -> ∃ n e, j = i + n /\ es[n]? = some e /\ eqK P t k e.1 = some true
 | [], i, j, v, h => by simp [a7h] at h
 | e :: es, i, j, v, h => by
   simp only [a7h] at h
   split at h
   . rename_i hq
     simp only [A5v, A0i] at h
     exact ⟨0, e, by omega, by simp, hq⟩
   . obtain ⟨n, e', h1, h2, h3⟩ := b9m h
     exact ⟨n + 1, e', by omega, by simpa using h2, h3⟩
   . cases h
theorem d0w (x y : FV) : eqV x y = eqV y x := by
 cases x <;> cases y <;> simp [eqV, eq_comm, Bool.beq_comm]
theorem b4k : ∀ (ks : List Kd) (xs ys : List FV), xs.length = ks.length -> ys.length = ks.length -> a2l ks xs ys = a2l ks ys xs
 | [], _, _, _, _ => rfl
 | k :: ks, x :: xs, y :: ys, h1, h2 => by
   simp only [a2l, b4k ks xs ys (by simpa using h1) (by simpa using h2), d0w x y]
   split <;> split <;> rfl
theorem e7k : eqK P t x y = eqK P t y x := by
 unfold eqK
 split
 . rw [d0w x y]; split <;> split <;> rfl
 . cases stT P t with
   | none => rfl
   | some ks =>
     cases x <;> cases y <;> first | rfl | skip
     rename_i xs ys
     simp only
     by_cases h1 : xs.length = ks.length <;> by_cases h2 : ys.length = ks.length <;> simp only [h1, h2, if_true, if_false]
     exact b4k ks xs ys h1 h2
theorem c7m {x k v : Operand} (hs : b0z P s.H t (rv s x) (rv s k) (rv s v) = some (us, r)) (ho : o.op = .mapUpdate t x k v \/ o.op = .insert t x k v) : WOk P s o us r := by
 intro X F m a w h
 unfold b0z at hs
 split at hs
 case h_2 => cases hs
 rename_i kt et l hmt hx
 have hmt := c0r hmt
 split at hs
 case h_2 => cases hs
 rename_i es clk hl
 split at hs
 case isFalse => cases hs
 rename_i hko
 have hxv := a1n h x
 rw [hx] at hxv
 generalize hxe : a.eval x = vx at hxv
 cases hxv with
 | mp _ hul =>
 have hkv := a1n h k
 have hvv := a1n h v
 obtain ⟨h0, ar, g1, g2⟩ := h.heap.obj _ _ hl
 have hck := a9x (P := P) hko hkv false 9998 w
 have hexec : (execOp a.eval o) = (do Instr.mapUpdate t (.map (some (m l).1)) (a.eval k) (a.eval v); pure .skip) := by
  rcases ho with ho | ho <;> simp [execOp, ho, hxe]
 split at hs
 . rename_i i u hf
   simp only [A5v, A0i] at hs
   obtain ⟨rfl, rfl⟩ := hs
   obtain ⟨r', k1, k2⟩ := a6g hko hkv hf g2 w
   cases r' with
   | none => exact k2.elim
   | some q =>
     obtain ⟨j, u'⟩ := q
     obtain ⟨rfl, k2⟩ := k2
     obtain ⟨n, e, e1, e2, e3⟩ := b9m hf
     obtain rfl : i = n := by omega
     obtain ⟨x', e4, e5⟩ := g2.get e2
     have hsb : Instr.sameBits 10000 x'.key (a.eval k) = true := e7l (by rw [e7k]; exact e3) e5.key hkv 9999
     have e6 : ar[i]? = some x' := by simpa using e4
     refine ⟨m, undef, _, .inr ⟨?_, rfl⟩, h.turn (o := .map (es.modify i fun e => (rv s k, rv s v, e.2.2)) clk) (ob := .map (ar.modify i fun e => { e with key := a.eval k, val := a.eval v }) clk) hl yd h0 yd g1 (fun w' q1 q2 => ?_), .undef _⟩
     . rw [hexec]
       simp [Instr.mapUpdate, run_underlying hmt, a5r g1, hck, k1, Instr.keyThatStays, e6, hsb, b3d _ g1]
     . refine ⟨h0, _, q1, ?_⟩
       rw [Array.toList_modify]
       have hne : ∀ b, F b -> w'.heap[b]? = w.heap[b]? := fun b hb => q2 b fun e => (h.heap.old l ⟨_, hl, by simp, h0⟩).2 (e ▸ hb)
       have hU : ∀ k', s.H k' ≠ none -> upd s.H l (.map (es.modify i fun e => (rv s k, rv s v, e.2.2)) clk) k' ≠ none := fun k' hk => by unfold upd; split <;> simp [hk]
       exact (g2.modify hkv hvv i).keep (fun _ h => h) hne hU (fun _ _ => rfl)
 . rename_i hf
   simp only [A5v, A0i] at hs
   obtain ⟨rfl, rfl⟩ := hs
   obtain ⟨r', k1, k2⟩ := a6g hko hkv hf g2 w
   cases r' with
   | some q => exact k2.elim
   | none =>
     refine ⟨m, undef, _, .inr ⟨?_, rfl⟩, h.turn (o := .map (es ++ [(rv s k, rv s v, clk)]) (clk + 1)) (ob := .map (ar.push { key := a.eval k, val := a.eval v, born := clk }) (clk + 1)) hl yd h0 yd g1 (fun w' q1 q2 => ?_), .undef _⟩
     . rw [hexec]
       simp [Instr.mapUpdate, run_underlying hmt, a5r g1, hck, k1, b3d _ g1]
     . refine ⟨h0, _, q1, ?_⟩
       rw [Array.toList_push]
       have hne : ∀ b, F b -> w'.heap[b]? = w.heap[b]? := fun b hb => q2 b fun e => (h.heap.old l ⟨_, hl, by simp, h0⟩).2 (e ▸ hb)
       have hU : ∀ k', s.H k' ≠ none -> upd s.H l (.map (es ++ [(rv s k, rv s v, clk)]) (clk + 1)) k' ≠ none := fun k' hk => by unfold upd; split <;> simp [hk]
       exact (g2.append (.cons _ _ _ _ ⟨hkv, hvv, rfl⟩ .nil)).keep (fun _ h => h) hne hU (fun _ _ => rfl)
 . cases hs
def b1w (P : Program) (H : Heap) (nm : Loc) (t : TypeId) (x : FV) : Option (LF × FV) := match mpT P t with
 | none => none
 | some _ => if (H nm).isNone then (match x with
   | .mp l => match H l with
     | some (.map _ clk) => some ([(nm, .iter x clk [] clk)], .ptr nm 0 0 0)
     | _ => none
   | .nilm => some ([(nm, .iter .nilm 0 [] 0)], .ptr nm 0 0 0)
   | _ => none) else none
theorem d3z {x : Operand} (hs : b1w P s.H nm t (rv s x) = some (us, v)) (ho : o.op = .range t x) : WOk P s o us v := by
 intro X F m a w h
 unfold b1w at hs
 split at hs
 . cases hs
 rename_i ke hmt
 obtain ⟨kt, et⟩ := ke
 have hmt := c0r hmt
 split at hs
 case isFalse => cases hs
 rename_i hc
 simp only [A1i] at hc
 have hxv := a1n h x
 have key : ∀ (f : FV) (q : Option Nat) (since : Nat), RF w F (fun l => s.H l ≠ none) m f (.map q) -> (Instr.range t (a.eval x)).run P w = .ok (.pointer (some ⟨w.heap.size, 0, none⟩)) (w.alloc (.mapIter q since #[] since)) ->
  ∃ (m' : Loc -> Nat × Nat) (u : Value) (w' : World), Ran P o a w u w' /\ RelX X F m' { s with H := upds s.H [(nm, .iter f since [] since)] } a w' /\ RF w' F (fun l => upds s.H [(nm, .iter f since [] since)] l ≠ none) m' (.ptr nm 0 0 0) u := by
  intro f q since hf hrun
  obtain ⟨g1, g2⟩ := MapKept.heap_alloc w (.mapIter q since #[] since)
  have hR := h.obj (l := nm) (n := 1) (ob := .mapIter q since #[] since) (o := .iter f since [] since) hc ⟨by simp, q, hf.keep (fun _ h => h) (fun b hb => g2 b (h.frz b hb)) (fun k hk => by unfold upd; split <;> simp [hk]) (fun k hk => by
   have : k ≠ nm := fun e => hk (e ▸ hc)
   simp [this]), by simpa using g1⟩
  refine ⟨_, .pointer (some ⟨w.heap.size, 0, none⟩), _, .inl (by simp [execOp, ho, hrun]), hR, ?_⟩
  have := RF.ptr (w := w.alloc (.mapIter q since #[] since)) (F := F) (U := fun k => upds s.H [(nm, .iter f since [] since)] k ≠ none) (m := fun k => if k = nm then (w.heap.size, 1) else m k) nm 0 0 0 z1d
  simpa using this
 split at hs
 . rename_i l hx
   split at hs
   case h_2 => cases hs
   rename_i es clk hl
   simp only [A5v, A0i] at hs
   obtain ⟨rfl, rfl⟩ := hs
   rw [hx] at hxv
   obtain ⟨h0, ar, g1, g2⟩ := h.heap.obj _ _ hl
   generalize hxe : a.eval x = vx at hxv
   cases hxv with
   | mp _ hul =>
   rw [hx]
   exact key _ _ clk (.mp l hul) (by rw [hxe]; simp [Instr.range, run_underlying hmt, a5r g1])
 . rename_i hx
   simp only [A5v, A0i] at hs
   obtain ⟨rfl, rfl⟩ := hs
   rw [hx] at hxv
   generalize hxe : a.eval x = vx at hxv
   cases hxv with
   | nilm => exact key _ _ 0 .nilm (by rw [hxe]; simp [Instr.range, run_underlying hmt])
 . cases hs
def e2z (H : Heap) (it : FV) (str : Bool) : Option (LF × FV) := match it, str with
 | .ptr l 0 0 0, false => match H l with
   | some (.iter .nilm _ _ _) => some ([], .tup [.bool false])
   | some (.iter (.mp k) since seen last) => match H k with
     | some (.map es clk) => if !seen.isEmpty && !es.isEmpty && es.all (fun e => decide (last <= e.2.2)) then none else
      match es.filter fun e => !seen.contains e.2.2 with
      | [] => some ([], .tup [.bool false])
      | [e] => if e.2.2 < since then some ([(l, .iter (.mp k) since (seen ++ [e.2.2]) clk)], .tup [.bool true, e.1, e.2.1]) else none
      | _ => none
     | _ => none
   | _ => none
 | _, _ => none
theorem REs.filter (h : REs w F U m es xs) (p : Nat -> Bool) : REs w F U m (es.filter fun e => p e.2.2) (xs.filter fun e => p e.born) := by
 induction h with
 | nil => exact .nil
 | cons e x es xs h hs ih =>
   simp only [List.filter_cons, h.born]
   split
   . exact .cons _ _ _ _ h ih
   . exact ih
theorem REs.all (h : REs w F U m es xs) (p : Nat -> Bool) : (xs.all fun e => p e.born) = es.all fun e => p e.2.2 := by
 induction h with
 | nil => rfl
 | cons e x es xs h hs ih => simp only [A3i, h.born, ih]
theorem REs.isEmpty (h : REs w F U m es xs) : xs.isEmpty = es.isEmpty := by cases h <;> rfl
theorem e2y {it : Operand} {str : Bool} (hs : e2z s.H (rv s it) str = some (us, v)) (ho : o.op = .next it str) : WOk P s o us v := by
 intro X F m a w h
 unfold e2z at hs
 split at hs
 case h_2 => cases hs
 rename_i l hx
 have hxv := a1n h it
 rw [hx] at hxv
 generalize hxe : a.eval it = vx at hxv
 cases hxv
 have over : ∀ {us v}, some (([] : LF), FV.tup [.bool false]) = some (us, v) -> (Instr.next (a.eval it) false o.type).run P w = .ok (.tuple #[.bool false]) w ->
  ∃ (m' : Loc -> Nat × Nat) (u : Value) (w' : World), Ran P o a w u w' /\ RelX X F m' { s with H := upds s.H us } a w' /\ RF w' F (fun l => upds s.H us l ≠ none) m' v u := by
  intro us v hs hrun
  simp only [A5v, A0i] at hs
  obtain ⟨rfl, rfl⟩ := hs
  exact ⟨m, .tuple #[.bool false], w, .inl (by simp [execOp, ho, hrun]), h, by simpa using RF.tup _ _ (.cons _ _ _ _ (.bool false) .nil)⟩
 split at hs
 . rename_i since seen last hl
   obtain ⟨h0, q, g1, g2⟩ := h.heap.obj _ _ hl
   cases g1
   refine over hs ?_
   rw [hxe]
   simp [Instr.next, b1c g2]
 . rename_i k since seen last hl
   obtain ⟨h0, q, g1, g2⟩ := h.heap.obj _ _ hl
   cases g1 with
   | mp _ huk =>
   split at hs
   case h_2 => cases hs
   rename_i es clk hk
   obtain ⟨hk0, ar, k1, k2⟩ := h.heap.obj _ _ hk
   split at hs
   . cases hs
   rename_i hcond
   have e0 : (!seen.toArray.isEmpty && !ar.isEmpty && ar.all (fun e => decide (e.born ≥ last))) = false := by
    have e1 : ar.isEmpty = es.isEmpty := by rw [<- k2.isEmpty]; simp
    have e2 : ar.all (fun e => decide (e.born ≥ last)) = es.all (fun e => decide (last <= e.2.2)) := by
     rw [<- k2.all (fun b => decide (last <= b)), Array.all_toList]
    rw [e1, e2]
    simpa using hcond
   have e3 : (ar.filter fun e => !seen.toArray.contains e.born).toList = ar.toList.filter fun e => !seen.contains e.born := by
    rw [Array.toList_filter]
    simp
   have k3 := k2.filter (fun b => !seen.contains b)
   rw [<- e3] at k3
   generalize hleft : (ar.filter fun e => !seen.toArray.contains e.born) = left at k3
   split at hs
   . rename_i hf
     rw [hf] at k3
     have hl0 : left = #[] := by
      apply Array.ext'
      cases hq : left.toList with
      | nil => rfl
      | cons _ _ => rw [hq] at k3; cases k3
     refine over hs ?_
     rw [hxe]
     simp only [Instr.next, A4k, A3h, Sem.run_bind, b1c g2, Result.andThen_ok, a5r k1, e0, hleft, hl0]
     simp [Question.forced]
   . rename_i e hf
     rw [hf] at k3
     obtain ⟨x, hxl, hre⟩ : ∃ x, left.toList = [x] /\ RE w F (fun l => s.H l ≠ none) m e x := by
      cases hq : left.toList with
      | nil => rw [hq] at k3; cases k3
      | cons x xs => rw [hq] at k3; cases k3 with
        | cons _ _ _ _ p q => cases q; exact ⟨x, rfl, p⟩
     have hl1 : left = #[x] := by apply Array.ext'; rw [hxl]
     split at hs
     case isFalse => cases hs
     rename_i hborn
     simp only [A5v, A0i] at hs
     obtain ⟨rfl, rfl⟩ := hs
     have hb : x.born < since := by rw [hre.born]; exact hborn
     have hb' : ¬ since <= x.born := by omega
     have hT := h.turn (o := .iter (.mp k) since (seen ++ [e.2.2]) clk) (ob := .mapIter (some (m k).1) since (seen.toArray.push x.born) clk) hl yd h0 yd g2 (fun w' q1 q2 => by
      have hne : ∀ b, F b -> w'.heap[b]? = w.heap[b]? := fun b hb => q2 b fun e => (h.heap.old l ⟨_, hl, by simp, h0⟩).2 (e ▸ hb)
      refine ⟨h0, some (m k).1, .mp k (by unfold upd; split <;> simp [huk]), ?_⟩
      rw [q1, <- hre.born]
      simp)
     have hrun : (Instr.next (.pointer (some ⟨(m l).1, 0, none⟩)) false o.type).run P w = .ok (.tuple #[.bool true, x.key, x.val]) { w with heap := w.heap.setIfInBounds (m l).1 (.mapIter (some (m k).1) since (seen.toArray.push x.born) clk) } := by
      simp only [Instr.next, Sem.run_bind, b1c g2, Result.andThen_ok, a5r k1, e0, hleft, hl1]
      simp [Question.forced, hb, hb', c5q _ g2]
     refine ⟨m, .tuple #[.bool true, x.key, x.val], _, .inl (by simp only [execOp, ho, hxe]; simp only [A4k, A3h, Sem.run_bind, hrun]; rfl), hT, ?_⟩
     have hT' := hT
     have hbl := fun b (hb : F b) => (MapKept.heap_set (o' := .mapIter (some (m k).1) since (seen.toArray.push x.born) clk) g2).2 b fun e => (h.heap.old l ⟨_, hl, by simp, h0⟩).2 (e ▸ hb)
     have hU : ∀ k', s.H k' ≠ none -> upds s.H [(l, .iter (.mp k) since (seen ++ [e.2.2]) clk)] k' ≠ none := fun k' hk' => d4i _ hk'
     have := RFs.cons _ _ _ _ (RF.bool (w := { w with heap := w.heap.setIfInBounds (m l).1 (.mapIter (some (m k).1) since (seen.toArray.push x.born) clk) }) (F := F) (U := fun k' => upds s.H [(l, .iter (.mp k) since (seen ++ [e.2.2]) clk)] k' ≠ none) (m := m) true)
      (.cons _ _ _ _ (hre.key.keep (fun _ h => h) hbl hU (fun _ _ => rfl)) (.cons _ _ _ _ (hre.val.keep (fun _ h => h) hbl hU (fun _ _ => rfl)) .nil))
     simpa using RF.tup _ _ this
   . cases hs
 . cases hs
end
end Go.FM
