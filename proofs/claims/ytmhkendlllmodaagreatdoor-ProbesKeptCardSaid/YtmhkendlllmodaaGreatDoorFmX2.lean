/- One of the texts of a proof by an abstract machine over the model. -/
import Derived.Test.YtmhkendlllmodaaGreatDoorFmX
set_option linter.unusedSimpArgs false
set_option linter.unusedVariables false
namespace Go.FM
open Go

/-! ### a closed run -/
abbrev Hp := T FO
abbrev hpD : Nat := 17
noncomputable def toH (h : Hp) : Heap := fun l => match l with
  | [k] => bif Nat.ble (k + 1) (2 ^ hpD) then h.getF hpD k else none
  | _ => none
/-- slots, as a tree of depth d; blocks; the next name -/
structure XS where
  d : Nat
  sl : T FV
  hp : Hp
  n : Nat
noncomputable def XS.get (s : XS) (t : Nat) : FV := bif Nat.ble (t + 1) (2 ^ s.d) then (match s.sl.getF s.d t with
  | some v => v
  | none => .undef) else .undef
noncomputable def xrv (s : XS) : Operand → FV
  | .tmp t => s.get t
  | .const c => cv c
  | .func f => .clo f [] []
  | .global _ => .undef
def calleeR (ρ : Operand → FV) (o : Oper) : Option (FuncId × List FV) := match o.op with
  | .call { callee := .value x, args, argTypes := _ } => match ρ x with
    | .clo f first caps => some (f, first ++ args.toList.map ρ ++ caps)
    | _ => none
  | _ => none
def guardR (ops : Array Oper) (o : Oper) (get : Nat → FV) : Option Bool := match o.guard with
  | none => some true
  | some (j, want) => match (ops[j]?).bind (·.dst) with
    | some d => match get d with
      | .bool b => some (b == want)
      | .tup [] => some false
      | _ => none
    | none => none
noncomputable def xPut (N : Nat) (o : Oper) (x : FV) (s : XS) : Option XS := match o.dst with
  | none => some s
  | some k => bif Nat.ble (k + 1) N then (bif Nat.ble (k + 1) (2 ^ s.d) then some ⟨s.d, s.sl.setF x s.d k, s.hp, s.n⟩ else none) else none
noncomputable def xUps (lo : Nat) : List (Loc × FO) → Hp → Option Hp
  | [], h => some h
  | (l, o) :: us, h => match l with
    | [k] => bif Nat.ble lo k then (bif Nat.ble (k + 1) (2 ^ hpD) then xUps lo us (h.setF o hpD k) else none) else none
    | _ => none
/-- what an operation does -/
inductive XR where
  | val (us : List (Loc × FO)) (v : FV)
  | call (f : FuncId) (A : List FV)
  | bad
def XR.of : Option (List (Loc × FO) × FV) → XR
  | some (us, v) => .val us v
  | none => .bad
def XR.ofV : Option FV → XR
  | some v => .val [] v
  | none => .bad
def xDo (P : Program) (H : Heap) (nm : Loc) (ρ : Operand → FV) (o : Oper) : XR := match o.op with
  | .move x => .val [] (ρ x)
  | .assign x => .val [] (ρ x)
  | .load t x => .ofV (fLoad P H t (ρ x))
  | .fieldAddr st x f => .ofV (fField P st (ρ x) f)
  | .indexAddr t x i => .ofV (fIndex P t (ρ x) (ρ i))
  | .store t ad x => .of (wStore P H t (ρ ad) (ρ x))
  | .binOp op t x y _ => match fBin P op t (ρ x) (ρ y) with
    | some r => .val [] r
    | none => .of (wv P H nm ρ o)
  | .nilCheck x => .ofV (fNil (ρ x))
  | .pick x y z => match ρ x with
    | .bool true => .val [] (ρ y)
    | .bool false => .val [] (ρ z)
    | _ => .bad
  | .extract x i => match ρ x with
    | .tup cs => .ofV cs[i]?
    | _ => .bad
  | .call { callee := .value x, args, argTypes := _ } => match ρ x with
    | .clo f first caps => .call f (first ++ args.toList.map ρ ++ caps)
    | _ => .bad
  | _ => .of (wv P H nm ρ o)
/-- the slots whose operations may take a name -/
def allocs (o : Oper) : Bool := match o.op with
  | .alloc _ | .box .. | .buildSlice .. | .makeSlice .. | .makeMap .. | .range .. => true
  | .call { callee := .builtin .append, args := _, argTypes := _ } => true
  | _ => false
def allocD (ops : Array Oper) : List Nat := (ops.toList.filter allocs).filterMap (·.dst)
def pos (d : Nat) : List Nat → Nat
  | [] => 0
  | x :: r => if x = d then 0 else pos d r + 1
def nmX (d : Nat) (ix : List Nat) : Loc := match ix with
  | [] => [0]
  | b :: r => [b + pos d r]
abbrev XC := Nat → FuncId → List FV → Hp → Nat → Option (FV × Hp × Nat)

section
variable (P : Program) (call : XC) (N : Nat)

noncomputable def xStep (lo : Nat) (ix : List Nat) (o : Oper) (s : XS) : Option XS := match xDo P (toH s.hp) (nmX (o.dst.getD 0) ix) (xrv s) o with
  | .val us v => match xUps lo us s.hp with
    | some hp' => xPut N o v ⟨s.d, s.sl, hp', s.n⟩
    | none => none
  | .call f A => bif fnOk P f then (match call lo f A s.hp s.n with
    | some (r, hp', n') => xPut N o r ⟨s.d, s.sl, hp', n'⟩
    | none => none) else none
  | .bad => none
noncomputable def xOps (lo : Nat) (ix : List Nat) (ops : Array Oper) : List Oper → XS → Option XS
  | [], s => some s
  | o :: rest, s => match guardR ops o s.get with
    | some true => match xStep P call N lo ix o s with
      | some s' => xOps lo ix ops rest s'
      | none => none
    | some false => match xPut N o (.tup []) s with
      | some s' => xOps lo ix ops rest s'
      | none => none
    | none => none

/-! a region that draws its order -/
mutual
def nB (U : Loc → Bool) : FV → Bool
  | .ptr l .. => U l
  | .sl l .. => U l
  | .mp l => U l
  | .list _ xs => nBss U xs
  | .ref cs => nBs U cs
  | .agg cs => nBs U cs
  | .tup cs => nBs U cs
  | .clo _ a b => nBs U a && nBs U b
  | _ => true
def nBs (U : Loc → Bool) : List FV → Bool
  | [] => true
  | x :: xs => nB U x && nBs U xs
def nBss (U : Loc → Bool) : List (List FV) → Bool
  | [] => true
  | x :: xs => nBs U x && nBss U xs
end
def nBm (U : Loc → Bool) : List (FV × FV × Nat) → Bool
  | [] => true
  | e :: es => (nB U e.1 && nB U e.2.1) && nBm U es
def onB (U : Loc → Bool) : FO → Bool
  | .cells _ _ xs => nBss U xs
  | .map es _ => nBm U es
  | .iter x _ _ _ => nB U x
  | .dead => true
/-- what a head made: as a heap; put into a heap; and whether it leads to these names alone -/
structure HA where
  A : Heap
  add : Hp → Hp
  ok : (Loc → Bool) → Bool
/-- the heads that an operation waits for, and what they made -/
def needH (H0 : Heap) (o : Oper) : Nat → List HA → Heap
  | _, [], l => H0 l
  | j, A :: As, l => if waitsB o j then (match A.A l with
    | some ob => some ob
    | none => needH H0 o (j + 1) As l) else needH H0 o (j + 1) As l
def needT (o : Oper) : Nat → List HA → Hp → Hp
  | _, [], h => h
  | j, A :: As, h => if waitsB o j then needT o (j + 1) As (A.add h) else needT o (j + 1) As h
def needOk (o : Oper) (U : Loc → Bool) : Nat → List HA → Bool
  | _, [] => true
  | j, A :: As => if waitsB o j then A.ok U && needOk o U (j + 1) As else needOk o U (j + 1) As
noncomputable def fromK (lo : Nat) (h : Hp) : Heap := fun l => match l with
  | [k] => bif Nat.ble lo k then (bif Nat.ble (k + 1) (2 ^ hpD) then h.getF hpD k else none) else none
  | _ => none
noncomputable def freshU (h : Hp) : List (Loc × FO) → Bool
  | [] => true
  | u :: us => (toH h u.1).isNone && freshU h us
noncomputable def putU : List (Loc × FO) → Hp → Hp
  | [], h => h
  | (l, o) :: us, h => match l with
    | [k] => putU us (h.setF o hpD k)
    | _ => putU us h
noncomputable def haU (us : List (Loc × FO)) : HA := ⟨upds noH us, putU us, fun U => us.all fun u => onB U u.2⟩
noncomputable def haC (lo : Nat) (hp' : Hp) : HA := ⟨fromK lo hp', fun h => bif h.under hpD lo then h.join hpD hp' lo else h, fun U => hp'.allFrom (onB U) hpD lo⟩
noncomputable def xHead (lo : Nat) (ix : List Nat) (h0 : Hp) (As : List HA) (o : Oper) (s : XS) : Option (XS × HA) := match xDo P (needH (toH h0) o 0 As) (nmX (o.dst.getD 0) ix) (xrv s) o with
  | .val us v => bif freshU s.hp us then (match xUps lo us s.hp with
    | some hp' => match xPut N o v ⟨s.d, s.sl, hp', s.n⟩ with
      | some s' => some (s', haU us)
      | none => none
    | none => none) else none
  | .call f A => let hn := needT o 0 As h0
    let U := fun l => (toH hn l).isSome
    bif fnOk P f && ((nBs U A && needOk o U 0 As) && ((hn.under hpD s.n && s.hp.under hpD s.n) && Nat.ble lo s.n)) then (match call s.n f A hn s.n with
    | some (r, hp', n') => match xPut N o r ⟨s.d, s.sl, s.hp.join hpD hp' s.n, n'⟩ with
      | some s' => some (s', haC s.n hp')
      | none => none
    | none => none) else none
  | .bad => none
noncomputable def xHeads (lo : Nat) (ix : List Nat) (ops : Array Oper) (n : Nat) (h0 : Hp) : Nat → List Oper → XS → List HA → Option XS
  | _, [], s, _ => some s
  | k, o :: rest, s, As => bif Nat.ble (k + 1) n then (bif depsB ops n k o && o.dst.isSome then (match guardR ops o s.get with
    | some true => match xHead P call N lo ix h0 As o s with
      | some (s', A) => xHeads lo ix ops n h0 (k + 1) rest s' (As ++ [A])
      | none => none
    | some false => match xPut N o (.tup []) s with
      | some s' => xHeads lo ix ops n h0 (k + 1) rest s' (As ++ [haU []])
      | none => none
    | none => none) else none) else xOps P call N lo ix ops (o :: rest) s
/-- the least number of heads that may be -/
noncomputable def headN (ops : Array Oper) : Nat → Nat → Option Nat
  | 0, _ => none
  | f + 1, n => if drawB ops n then some n else headN ops f (n + 1)
noncomputable def xDraw (lo : Nat) (ix : List Nat) (ops : Array Oper) (s : XS) : Option XS := match headN ops (ops.size + 1) 0 with
  | some n => xHeads P call N lo ix ops n s.hp 0 ops.toList s []
  | none => none

noncomputable def condR (s : XS) : Operand → Option Bool
  | .tmp t => match s.get t with
    | .bool b => some b
    | _ => none
  | .const (.bool b) => some b
  | _ => none
def xIter (step : XS → Option (Exit × XS)) : Nat → XS → Option (Exit × XS)
  | 0, _ => none
  | k + 1, s => match step s with
    | some (.normal, s') => xIter step k s'
    | r => r
noncomputable def XS.enter (s : XS) (ops : Array Oper) : XS := ⟨s.d, s.sl, s.hp, s.n + (allocD ops).length + 1⟩
noncomputable def xCode (LF lo : Nat) : Code → XS → Option (Exit × XS)
  | .skip, s => some (.normal, s)
  | .label _, s => some (.normal, s)
  | .region _ ops false, s => match xOps P call N lo (s.n :: allocD ops) ops ops.toList (s.enter ops) with
    | some s' => some (.normal, s')
    | none => none
  | .region _ ops true, s => if P.follows .mixedOrders then (match xDraw P call N lo (s.n :: allocD ops) ops (s.enter ops) with
    | some s' => some (.normal, s')
    | none => none) else none
  | .seq x y, s => match xCode LF lo x s with
    | some (.normal, s') => xCode LF lo y s'
    | r => r
  | .cond x t e, s => match condR s x with
    | some true => xCode LF lo t s
    | some false => xCode LF lo e s
    | none => none
  | .block id b, s => match xCode LF lo b s with
    | some (.exit i, s') => if i = id then some (.normal, s') else some (.exit i, s')
    | r => r
  | .loop b, s => xIter (xCode LF lo b) LF s
  | .exit id, s => some (.exit id, s)
  | .ret, s => some (.ret, s)
  | _, _ => none
end

noncomputable def initS (d : Nat) : List FV → Nat → T FV → T FV
  | [], _, t => t
  | x :: xs, k, t => initS d xs (k + 1) (t.setF x d k)
noncomputable def xRes (P : Program) (s : XS) : List ResultVar → Option (List FV)
  | [] => some []
  | .tmp t :: r => match xRes P s r with
    | some l => some (s.get t :: l)
    | none => none
  | .cell t ty :: r => match fLoad P (toH s.hp) ty (s.get t), xRes P s r with
    | some v, some l => some (v :: l)
    | _, _ => none
abbrev Orc := FuncId → List FV → Hp → Nat → Option (FV × Hp × Nat)
def dOf (N : Nat) : Nat := bif Nat.ble N 16 then 4 else bif Nat.ble N 64 then 6 else 9
noncomputable def xCall (P : Program) (orc : Orc) (LF : Nat) : Nat → XC
  | 0, _, _, _, _, _ => none
  | k + 1, lo, f, A, hp, n => match orc f A hp n with
    | some (r, hp', n') => bif Nat.ble lo n then some (r, hp', n') else none
    | none => match P.funcs[f]? with
      | some fn => match fn.body with
        | some code => bif Nat.ble A.length fn.ntmps then (bif Nat.ble fn.ntmps (2 ^ dOf fn.ntmps) then (match xCode P (xCall P orc LF k) fn.ntmps LF lo code ⟨dOf fn.ntmps, initS (dOf fn.ntmps) A 0 .nil, hp, n⟩ with
          | some (.normal, s') => match xRes P s' fn.results.toList with
            | some l => some (tupOf l, s'.hp, s'.n)
            | none => none
          | some (.ret, s') => match xRes P s' fn.results.toList with
            | some l => some (tupOf l, s'.hp, s'.n)
            | none => none
          | _ => none) else none) else none
        | none => none
      | none => none
end Go.FM
