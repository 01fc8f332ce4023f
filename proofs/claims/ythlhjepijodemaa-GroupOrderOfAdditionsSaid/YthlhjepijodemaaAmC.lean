/- One of the texts of a proof by an abstract machine over the model. -/
import Derived.Test.YthlhjepijodemaaAmB
set_option linter.unusedSimpArgs false
set_option linter.unusedVariables false
namespace Go.AM
open Go

abbrev Asg := List (Nat × AV)
def lk : Asg → Nat → AV
  | [], _ => .undef
  | (k, v) :: r, t => if k = t then v else lk r t

/-- the abstract state: the named variables' slots; the temporaries; which handles are dead: of root r those that depend on cells at depth l or more -/
structure St where
  vars : List AV
  tm : Asg
  D : List (Nat × Nat)

def St.get (s : St) (t : Nat) : AV := if t < s.vars.length then s.vars.getD t .undef else lk s.tm t
def St.put (s : St) (t : Nat) (v : AV) : St := if t < s.vars.length then { s with vars := s.vars.set t v } else { s with tm := (t, v) :: s.tm }

def liveB (D : List (Nat × Nat)) (r dep : Nat) : Bool := D.all fun e => !(e.1 == r) || decide (dep < e.2)

/-- a cell that may be copied -/
def AV.pureC : AV → Bool
  | .int .. | .bool _ | .str _ | .fn _ | .list .. | .nils _ => true
  | _ => false
def AV.pureA : AV → Bool
  | .agg cs => cs.all AV.pureC
  | .ref _ => true
  | v => v.pureC
/-- a value that may be copied -/
def AV.pure : AV → Bool
  | .agg cs => cs.all AV.pureC
  | .tup cs => cs.all AV.pureA
  | .ref _ => true
  | v => v.pureC
def AV.isH : AV → Bool
  | .loc .. | .bor .. => true
  | _ => false
def AV.isOwn : AV → Bool
  | .own .. => true
  | _ => false

/-! ### types, as a walk wants them -/
def slSz (P : Program) (t : TypeId) : Option Nat := match P.underlying t with | some (.slice e) => some (P.cellsOf e) | _ => none
def aggSz (P : Program) (t : TypeId) : Option Nat := match P.underlying t with | some (.struct _) | some (.array _ _) => some (P.cellsOf t) | _ => none
def fldOff (P : Program) (t : TypeId) (f : Nat) : Option Nat := match P.underlying t with
  | some (.struct fs) => match fs[f]? with
    | some x => if P.cellsOf x.type = 0 then none else some x.offset
    | none => none
  | _ => none

/-- a constant -/
def cv (P : Program) (ty : TypeId) : Value → AV
  | .int k n => .int k n
  | .bool b => .bool b
  | .string s => .str s
  | .slice none 0 0 => match slSz P ty with | some sz => .nils sz | none => .undef
  | _ => .undef

/-- an operand, read: a handle, or what it is; the root that a handle leads through; is the handle alive -/
structure RO where
  v : AV
  t : Option Nat
  root : AV
  ok : Bool

def ro (P : Program) (s : St) (ty : TypeId) : Operand → RO
  | .tmp t => match s.get t with
    | .loc r p => { v := .loc r p, t := some t, root := s.get r, ok := liveB s.D r (p.length - 1) }
    | .bor r p => { v := .bor r p, t := some t, root := s.get r, ok := liveB s.D r p.length }
    | .own sz xs => { v := .bor t [], t := some t, root := .own sz xs, ok := true }
    | .box cs => { v := .loc t [⟨0, 0, 0⟩], t := some t, root := .box cs, ok := true }
    | v => { v, t := some t, root := .undef, ok := true }
  | .const c => { v := cv P ty c, t := none, root := .undef, ok := true }
  | .func f => { v := .fn f, t := none, root := .undef, ok := true }
  | .global _ => { v := .undef, t := none, root := .undef, ok := true }

/-- writes, and what dies by them -/
structure Wr where
  ws : Asg
  ds : List (Nat × Nat)

def putAll (s : St) : Asg → St
  | [] => s
  | (t, v) :: r => putAll (s.put t v) r
def St.apply (s : St) (x : Wr) : St := { putAll s x.ws with D := x.ds ++ s.D }

/-- what an operand stands for, to be looked at -/
def AV.seen : AV → Option AV
  | .undef => none
  | .loc .. => none
  | .bor .. => none
  | v => some v
def RO.cont (r : RO) : Option AV := match r.v with
  | .bor _ p => if r.ok then (nodeAt r.root p).bind AV.seen else none
  | v => v.seen

/-- an operand, taken: what it stands for, and what is then gone -/
def RO.take (r : RO) : Option (AV × Wr) := match r.v with
  | .agg cs => if cs.all AV.pureC then some (.agg cs, ⟨[], []⟩) else match r.t with
    | some t => some (.agg cs, ⟨[(t, .undef)], [(t, 0)]⟩)
    | none => none
  | .bor q p => if r.ok then
      match nodeAt r.root p with
      | some (.own sz xs) => some (.own sz xs, ⟨[(q, setAt r.root p .undef)], [(q, p.length)]⟩)
      | _ => none
    else none
  | v => if v.pure then some (v, ⟨[], []⟩) else none

def AV.cellsL : AV → List AV
  | .agg cs => cs
  | v => [v]
def AV.isU : AV → Bool
  | .undef => true
  | _ => false

def bump (p : List Stp) (j : Nat) : List Stp := match p with
  | [] => []
  | [s] => [{ s with off := s.off + j }]
  | s :: p => s :: bump p j

end Go.AM
