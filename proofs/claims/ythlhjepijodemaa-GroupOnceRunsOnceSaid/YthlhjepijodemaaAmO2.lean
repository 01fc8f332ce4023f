/- One of the texts of a proof by an abstract machine over the model. -/
import Derived.Test.YthlhjepijodemaaAmO
import Derived.StillTail
set_option linter.unusedSimpArgs false
set_option linter.unusedVariables false
namespace Go.AM
open Go

abbrev Rho := TypeId → Operand → RO
def contsR (ρ : Rho) : List (Operand × TypeId) → Option (List AV)
  | [] => some []
  | (x, t) :: r => ((ρ t x).cont).bind fun v => (contsR ρ r).map (v :: ·)
theorem contsR_ro (P : Program) (s : St) : ∀ l, contsR (ro P s) l = conts P s l
  | [] => rfl
  | (x, t) :: r => by simp only [contsR, conts, contsR_ro P s r]
def plainR (ρ : Rho) (l : List (Operand × TypeId)) : Bool := l.all fun x => (ρ x.2 x.1).v.pure
def purL (ρ : Rho) : List Operand → Option (List AV)
  | [] => some []
  | x :: r => if (ρ 0 x).v.pure then (purL ρ r).map ((ρ 0 x).v :: ·) else none

/-- the value of an operation that only puts a value into its slot -/
def qv (P : Program) (ρ : Rho) (o : Oper) : Option AV := match o.op with
  | .move x => match (ρ o.type x).v with
    | .loc q p => if (ρ o.type x).ok then some (.loc q p) else none
    | .bor q p => if (ρ o.type x).ok then some (.bor q p) else none
    | v => if v.pure then some v else none
  | .pick x y z => match (ρ o.type x).v with
    | .bool true => if (ρ o.type y).v.pure then some (ρ o.type y).v else none
    | .bool false => if (ρ o.type z).v.pure then some (ρ o.type z).v else none
    | _ => none
  | .binOp op t x y _ => ((ρ t x).cont).bind fun u => ((ρ t y).cont).bind fun v => aBin P op t u v
  | .unOp op t x => ((ρ t x).cont).bind fun u => aUn op u
  | .convert a b x => ((ρ a x).cont).bind fun u => aConv P a b u
  | .extract x i => match (ρ o.type x).v with
    | .tup cs => match cs[i]? with
      | some u => if u.pure then some u else none
      | none => none
    | _ => none
  | .alloc t => (zeroC P t).map fun cs => .box (cs.map AV.ownify)
  | .box t x => if (ρ t x).v.pure then (if (ρ t x).v.storable then some (.box (ρ t x).v.cellsL) else none) else none
  | .build t parts => match zeroC P t, placesT P t, purL ρ (parts.toList.map (·.2)) with
    | some z, some pl, some vs => (fillA pl z ((parts.toList.map (·.1)).zip vs)).map .agg
    | _, _, _ => none
  | .fieldAddr st x f => match fldT P st f with
    | none => none
    | some off => match (ρ 0 x).v with
      | .loc q p => if (ρ 0 x).ok && (nodeAt (ρ 0 x).root p).isSome then some (.loc q (bump p off)) else none
      | .ref cs => some (.ref (cs.drop off))
      | _ => none
  | .load t x => match ldT P t with
    | none => none
    | some none => match (ρ 0 x).v with
      | .loc q p => if (ρ 0 x).ok then match nodeAt (ρ 0 x).root p with
          | some v => if v.pureC then some v else if v.isOwn then some (.bor q p) else none
          | none => none
        else none
      | .ref (v :: _) => if v.pureC then some v else none
      | _ => none
    | some (some n) => match (ρ 0 x).v with
      | .loc _ p => if (ρ 0 x).ok then match collect (fun j => nodeAt (ρ 0 x).root (bump p j)) n 0 with
          | some cs => if cs.all AV.pureC && decide (0 < n) then some (.agg cs) else none
          | none => none
        else none
      | .ref cs => if n ≤ cs.length then some (.agg (cs.take n)) else none
      | _ => none
  | .indexAddr t x i => match slT P t, (ρ 0 i).v with
    | some (_, sz), .int _ n => match (ρ t x).v with
      | .bor q p => if (ρ t x).ok then match nodeAt (ρ t x).root p with
          | some (.own sz' xs) => if decide (sz' = sz) && (decide (0 ≤ n) && decide (n < (xs.length : Int))) then some (.loc q (p ++ [⟨n.toNat, sz, 0⟩])) else none
          | _ => none
        else none
      | .list sz' xs => if decide (sz' = sz) && decide (0 ≤ n) then match xs[n.toNat]? with
          | some e => some (.ref e)
          | none => none
        else none
      | _ => none
    | _, _ => none
  | .call { callee := .builtin .len, args := ⟨[x]⟩, argTypes := ⟨[t]⟩ } => match (ρ t x).cont with
    | some (.list _ xs) => if (slT P t).isSome then some (.int .i64 xs.length) else none
    | some (.own _ xs) => if (slT P t).isSome then some (.int .i64 xs.length) else none
    | some (.nils _) => if (slT P t).isSome then some (.int .i64 0) else none
    | some (.str m) => if strT P t then some (.int .i64 m.size) else none
    | _ => none
  | .call { callee := .builtin .min, args, argTypes } => (contsR ρ (args.toList.map fun x => (x, argTypes.getD 0 0))).bind fun l => match l with
    | [] => none
    | x :: l => aMins x l
  | _ => none

def dOk (c : Cfg) (s : St) (o : Oper) (d : Nat) (v : AV) : Bool :=
  (match o.dst with | some d' => d' == d | none => false) && (decide (d < c.N) && (!c.pins.contains d && ((s.get d).isU && (!v.isH || decide (s.vars.length ≤ d)))))
theorem dOk_put {c : Cfg} {s : St} {o : Oper} {d : Nat} {v : AV} (h : dOk c s o d v = true) : o.dst = some d ∧ putD c o v s = some (s.put d v) := by
  unfold dOk at h
  rw [Bool.and_eq_true] at h
  split at h
  · rename_i d' hd
    have : d' = d := by simpa using h.1
    subst this
    refine ⟨hd, ?_⟩
    unfold putD
    simp only [hd]
    rw [if_pos h.2]
  · simp at h

theorem apply_nil (s : St) : s.apply ⟨[], []⟩ = s := rfl
theorem take_pure {r : RO} (h : r.v.pure = true) : r.take = some (r.v, ⟨[], []⟩) := by
  unfold RO.take
  split
  · rename_i cs hv
    rw [hv] at h
    have h' : cs.all AV.pureC = true := h
    rw [if_pos h', hv]
  · rename_i q p hv; rw [hv] at h; cases h
  · rw [if_pos h]
theorem takeL_pure {P : Program} {s : St} : ∀ {l : List Operand} {vs : List AV}, purL (ro P s) l = some vs → takeL P s l = some (vs, s)
  | [], vs, h => by simp only [purL, Option.some.injEq] at h; subst h; rfl
  | x :: r, vs, h => by
    simp only [purL] at h
    split at h
    · rename_i hp
      rw [Option.map_eq_some_iff] at h
      obtain ⟨vs', hvs, rfl⟩ := h
      simp only [takeL, take_pure hp, apply_nil, takeL_pure hvs]
    · cases h

theorem qv_step {P : Program} {c : Cfg} {s : St} {o : Oper} {d : Nat} {v : AV} (h : qv P (ro P s) o = some v) (hd : dOk c s o d v = true) : aStepF P c o s = some (s.put d v) := by
  obtain ⟨hdst, hput⟩ := dOk_put hd
  unfold qv at h
  unfold aStepF
  split at h
  · rename_i x ho
    simp only [ho, aMove]
    generalize ro P s o.type x = r at *
    split at h
    · rename_i q p hv
      split at h
      · rename_i hok; simp only [hv, hok, if_true]; rw [show AV.loc q p = v by simpa using h]; exact hput
      · cases h
    · rename_i q p hv
      split at h
      · rename_i hok; simp only [hv, hok, if_true]; rw [show AV.bor q p = v by simpa using h]; exact hput
      · cases h
    · rename_i n1 n2
      split at h
      · rename_i hp
        have e : r.v = v := by simpa using h
        split
        · rename_i q p hv; rw [hv] at hp; cases hp
        · rename_i q p hv; rw [hv] at hp; cases hp
        · rw [if_pos hp, e]; exact hput
      · cases h
  · rename_i x y z ho
    simp only [ho, aPick]
    split at h
    · rename_i hb
      split at h
      · rename_i hp; simp only [hb, hp, if_true]; rw [show (ro P s o.type y).v = v by simpa using h]; exact hput
      · cases h
    · rename_i hb
      split at h
      · rename_i hp; simp only [hb, hp, if_true]; rw [show (ro P s o.type z).v = v by simpa using h]; exact hput
      · cases h
    · cases h
  · rename_i op t x y _ ho
    simp only [ho, aBinOp]; rw [h]; exact hput
  · rename_i op t x ho
    simp only [ho, aUnOp]; rw [h]; exact hput
  · rename_i t t' x ho
    simp only [ho, aConvert]; rw [h]; exact hput
  · rename_i x i ho
    simp only [ho, aExtract]
    split at h
    · rename_i cs hv
      split at h
      · rename_i u hu
        split at h
        · rename_i hp; simp only [hv, hu, hp, if_true]; rw [show u = v by simpa using h]; exact hput
        · cases h
      · cases h
    · cases h
  · rename_i t ho
    simp only [ho, aAlloc]
    rw [Option.map_eq_some_iff] at h
    obtain ⟨cs, hcs, rfl⟩ := h
    simp only [hcs, Option.bind_some]; exact hput
  · rename_i t x ho
    simp only [ho, aBox]
    split at h
    · rename_i hp
      split at h
      · rename_i hst
        rw [take_pure hp]
        simp only [hst, if_true, apply_nil]
        rw [show AV.box (ro P s t x).v.cellsL = v by simpa using h]; exact hput
      · cases h
    · cases h
  · rename_i t parts ho
    simp only [ho, aBuild]
    split at h
    · rename_i z pl vs hz hpl hvs
      rw [Option.map_eq_some_iff] at h
      obtain ⟨r, hr, rfl⟩ := h
      simp only [hz, hpl, takeL_pure hvs, hr, Option.bind_some]; exact hput
    · cases h
  · rename_i st x f ho
    simp only [ho, aField]
    split at h
    · cases h
    · rename_i off hoff
      simp only [hoff]
      split at h
      · rename_i q p hv
        split at h
        · rename_i hc; simp only [hv, hc, if_true]; rw [show AV.loc q (bump p off) = v by simpa using h]; exact hput
        · cases h
      · rename_i cs hv
        simp only [hv]; rw [show AV.ref (cs.drop off) = v by simpa using h]; exact hput
      · cases h
  · rename_i t x ho
    simp only [ho, aLoad]
    split at h
    · cases h
    · rename_i ht
      simp only [ht]
      split at h
      · rename_i q p hv
        split at h
        · rename_i hok
          simp only [hv, hok, if_true]
          split at h
          · rename_i u hu
            simp only [hu]
            split at h
            · rename_i hp; simp only [hp, if_true]; rw [show u = v by simpa using h]; exact hput
            · rename_i hp
              split at h
              · rename_i ho'; simp only [hp, ho']; simp only [if_true]; rw [show AV.bor q p = v by simpa using h]; exact hput
              · cases h
          · cases h
        · cases h
      · rename_i u cs hv
        split at h
        · rename_i hp; simp only [hv, hp, if_true]; rw [show u = v by simpa using h]; exact hput
        · cases h
      · cases h
    · rename_i n ht
      simp only [ht]
      split at h
      · rename_i q p hv
        split at h
        · rename_i hok
          simp only [hv, hok, if_true]
          split at h
          · rename_i cs hcs
            simp only [hcs]
            split at h
            · rename_i hp; simp only [hp, if_true]; rw [show AV.agg cs = v by simpa using h]; exact hput
            · cases h
          · cases h
        · cases h
      · rename_i cs hv
        split at h
        · rename_i hp; simp only [hv, hp, if_true]; rw [show AV.agg (cs.take n) = v by simpa using h]; exact hput
        · cases h
      · cases h
  · rename_i t x i ho
    simp only [ho, aIndex]
    split at h
    · rename_i e sz k n ht hi
      simp only [ht, hi]
      split at h
      · rename_i q p hv
        split at h
        · rename_i hok
          simp only [hv, hok, if_true]
          split at h
          · rename_i sz' xs hn
            simp only [hn]
            split at h
            · rename_i hc; simp only [hc, if_true]; rw [show AV.loc q (p ++ [⟨n.toNat, sz, 0⟩]) = v by simpa using h]; exact hput
            · cases h
          · cases h
        · cases h
      · rename_i sz' xs hv
        split at h
        · rename_i hc
          simp only [hv, hc, if_true]
          split at h
          · rename_i el hel; simp only [hel]; rw [show AV.ref el = v by simpa using h]; exact hput
          · cases h
        · cases h
      · cases h
    · cases h
  · rename_i x t ho
    simp only [ho, aLen]
    split at h
    · rename_i hc; split at h
      · rename_i ht; simp only [hc, ht, if_true]; rw [Option.some.inj h]; exact hput
      · cases h
    · rename_i hc; split at h
      · rename_i ht; simp only [hc, ht, if_true]; rw [Option.some.inj h]; exact hput
      · cases h
    · rename_i hc; split at h
      · rename_i ht; simp only [hc, ht, if_true]; rw [Option.some.inj h]; exact hput
      · cases h
    · rename_i hc; split at h
      · rename_i ht; simp only [hc, ht, if_true]; rw [Option.some.inj h]; exact hput
      · cases h
    · cases h
  · rename_i args ts ho
    simp only [ho, aMin]
    rw [contsR_ro, Option.bind_eq_some_iff] at h
    obtain ⟨l, hl, hr⟩ := h
    simp only [hl, Option.bind_some]
    cases l with
    | nil => cases hr
    | cons y l => simp only at hr ⊢; rw [hr]; exact hput
  · cases h
end Go.AM
