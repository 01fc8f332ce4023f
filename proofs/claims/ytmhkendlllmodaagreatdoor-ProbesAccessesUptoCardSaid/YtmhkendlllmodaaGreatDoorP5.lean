/- Texts of a proof by an abstract machine over the model. -/
import Derived.Test.YtmhkendlllmodaaGreatDoorP4
set_option linter.unusedSimpArgs false
set_option linter.unusedVariables false
namespace Go.Gv
open Go Go.FM
set_option maxRecDepth 100000
set_option maxHeartbeats 4000000
/-! ### programs, and when they are valid: two texts, one meaning -/
structure Ins where
  op : Int
  a : Int
  b : Int
  c : Int
  d : Int
  deriving DecidableEq
structure FnD where
  name : ByteArray
  params : Int
  regs : Int
  code : List Ins
structure Gb where
  name : ByteArray
  kind : Int
def FnD.nm (f : FnD) : List UInt8 := f.name.data.toList
def Gb.nm (f : Gb) : List UInt8 := f.name.data.toList
structure Pg where
  funcs : List FnD
  globals : List Gb
  layouts : List (List Int)
  main : Int
abbrev W (n : Int) : Int := IntKind.wrap .i64 n
theorem W_id {n : Int} (h : -9223372036854775808 ≤ n) (h' : n < 9223372036854775808) : W n = n := by
  unfold W; rw [IntKind.wrap_i64]; omega
def btw (v lo hi : Int) : Bool := decide (lo ≤ v) && decide (v ≤ hi)
def opAt (l : List Ins) (v : Int) : Int := match l[v.toNat]? with
  | some y => y.op
  | none => 0
def parAt (l : List FnD) (v : Int) : Int := match l[v.toNat]? with
  | some y => y.params
  | none => 0
def rI : Int → Int × Int × Int
  | 1 => (100, 105, 45)
  | 2 => (100, 45, 45)
  | 3 => (100, 115, 45)
  | 4 => (100, 115, 115)
  | 5 => (100, 115, 115)
  | 6 => (100, 115, 115)
  | 7 => (100, 115, 115)
  | 8 => (100, 115, 115)
  | 9 => (100, 115, 45)
  | 10 => (100, 115, 45)
  | 11 => (100, 115, 115)
  | 12 => (100, 115, 115)
  | 13 => (100, 115, 115)
  | 14 => (100, 115, 115)
  | 15 => (100, 115, 45)
  | 16 => (45, 45, 116)
  | 17 => (115, 45, 116)
  | 18 => (100, 103, 45)
  | 19 => (100, 115, 110)
  | 20 => (100, 115, 115)
  | 21 => (100, 108, 45)
  | 22 => (100, 115, 45)
  | 23 => (100, 115, 45)
  | 24 => (100, 99, 107)
  | 25 => (100, 112, 45)
  | 26 => (68, 102, 97)
  | 27 => (115, 45, 45)
  | 28 => (45, 102, 97)
  | 29 => (115, 45, 45)
  | 30 => (83, 45, 45)
  | 31 => (45, 102, 97)
  | 32 => (115, 45, 45)
  | 33 => (100, 115, 45)
  | 34 => (115, 115, 45)
  | 35 => (100, 115, 45)
  | 36 => (115, 115, 45)
  | 37 => (100, 115, 115)
  | 38 => (100, 115, 115)
  | 39 => (115, 45, 45)
  | 40 => (115, 45, 45)
  | 41 => (115, 45, 45)
  | 42 => (115, 45, 45)
  | 43 => (115, 115, 45)
  | 44 => (115, 45, 45)
  | 45 => (115, 45, 116)
  | 46 => (115, 45, 45)
  | 47 => (115, 115, 45)
  | 48 => (68, 115, 68)
  | 49 => (115, 45, 45)
  | 50 => (100, 120, 98)
  | 51 => (115, 98, 118)
  | 52 => (115, 45, 45)
  | _ => (0, 0, 0)
def rR : Int → Int × Int × Int
  | 1 => (100, 105, 45)
  | 2 => (100, 45, 45)
  | 3 => (100, 114, 45)
  | 4 => (100, 114, 114)
  | 5 => (100, 114, 114)
  | 6 => (100, 114, 114)
  | 7 => (100, 114, 114)
  | 8 => (100, 114, 114)
  | 9 => (100, 114, 45)
  | 10 => (100, 114, 45)
  | 11 => (100, 114, 114)
  | 12 => (100, 114, 114)
  | 13 => (100, 114, 114)
  | 14 => (100, 114, 114)
  | 15 => (100, 114, 45)
  | 16 => (45, 45, 106)
  | 17 => (114, 45, 106)
  | 18 => (100, 103, 45)
  | 19 => (100, 114, 110)
  | 20 => (100, 114, 114)
  | 21 => (100, 108, 45)
  | 22 => (100, 114, 45)
  | 23 => (100, 114, 45)
  | 24 => (100, 49, 110)
  | 25 => (100, 110, 45)
  | 26 => (68, 102, 97)
  | 27 => (114, 45, 45)
  | 28 => (45, 102, 97)
  | 29 => (114, 45, 45)
  | 30 => (82, 45, 45)
  | 31 => (45, 102, 97)
  | 32 => (114, 45, 45)
  | 33 => (100, 114, 45)
  | 34 => (114, 114, 45)
  | 35 => (100, 114, 45)
  | 36 => (114, 114, 45)
  | 37 => (100, 114, 114)
  | 38 => (100, 114, 114)
  | 39 => (114, 45, 45)
  | 40 => (114, 45, 45)
  | 41 => (114, 45, 45)
  | 42 => (114, 45, 45)
  | 43 => (114, 114, 45)
  | 44 => (114, 45, 45)
  | 45 => (114, 45, 106)
  | 46 => (114, 45, 45)
  | 47 => (114, 114, 45)
  | 48 => (68, 114, 68)
  | 49 => (114, 45, 45)
  | 50 => (100, 115, 98)
  | 51 => (114, 98, 99)
  | 52 => (114, 45, 45)
  | _ => (0, 0, 0)

def opI (p : Pg) (f : FnD) (x : Ins) (role v : Int) : Bool :=
  if role = 100 ∨ role = 115 then btw v 0 (W (f.regs - 1))
  else if role = 68 ∨ role = 83 then btw v (-1) (W (f.regs - 1))
  else if role = 116 then btw v 0 (W ((f.code.length : Int) - 1)) && !decide (opAt f.code v = 51)
  else if role = 103 then btw v 0 (W ((p.globals.length : Int) - 1))
  else if role = 108 then btw v 0 (W ((p.layouts.length : Int) - 1))
  else if role = 102 then (btw v 0 (W ((p.funcs.length : Int) - 1)) && btw x.c 0 f.regs) && decide (parAt p.funcs v ≤ W (f.regs - x.c))
  else if role = 99 then btw v 0 (W ((p.funcs.length : Int) - 1)) && decide (parAt p.funcs v = 1)
  else if role = 97 then decide (0 ≤ v)
  else if role = 110 then btw v 0 64
  else if role = 107 then btw v 0 63 && decide (W (x.a + v) < f.regs)
  else if role = 112 then btw v 0 62 && decide (0 < f.regs)
  else if role = 120 then btw v 0 8
  else if role = 98 then decide (v = 0) || decide (v = 1)
  else if role = 118 then btw v (W (W (W (0 - x.b) - 1) + W (2 * x.b))) (W (f.regs - 1))
  else if role = 105 then true
  else decide (v = 0)
def opR (p : Pg) (f : FnD) (x : Ins) (role v : Int) : Bool :=
  if role = 100 ∨ role = 114 then decide (0 ≤ v) && decide (v < f.regs)
  else if role = 68 ∨ role = 82 then decide (-1 ≤ v) && decide (v < f.regs)
  else if role = 110 then decide (0 ≤ v) && decide (v ≤ 64)
  else if role = 106 then (decide (0 ≤ v) && decide (v < (f.code.length : Int))) && !decide (opAt f.code v = 51)
  else if role = 103 then decide (0 ≤ v) && decide (v < (p.globals.length : Int))
  else if role = 108 then decide (0 ≤ v) && decide (v < (p.layouts.length : Int))
  else if role = 102 then ((decide (0 ≤ v) && decide (v < (p.funcs.length : Int))) && decide (0 ≤ x.c)) && decide (x.c ≤ W (f.regs - parAt p.funcs v))
  else if role = 49 then (decide (0 ≤ v) && decide (v < (p.funcs.length : Int))) && decide (parAt p.funcs v = 1)
  else if role = 97 then decide (0 ≤ v)
  else if role = 115 then decide (0 ≤ v) && decide (v ≤ 8)
  else if role = 98 then decide (v = 0) || decide (v = 1)
  else if role = 99 then (decide (-1 ≤ v) && decide (v < f.regs)) && (decide (x.b = 0) || decide (0 ≤ v))
  else if role = 45 then decide (v = 0)
  else true
def instrI (p : Pg) (f : FnD) (x : Ins) : Bool :=
  (((((decide (1 ≤ x.op ∧ x.op ≤ 52) && decide (0 ≤ x.d)) && opI p f x (rI x.op).1 x.a) && opI p f x (rI x.op).2.1 x.b) && opI p f x (rI x.op).2.2 x.c)) && (!decide (x.op = 38) || decide (x.c < W (f.regs - 1)))
def instrR (p : Pg) (f : FnD) (x : Ins) : Bool :=
  (((((decide (1 ≤ x.op ∧ x.op ≤ 52) && decide (0 ≤ x.d)) && opR p f x (rR x.op).1 x.a) && opR p f x (rR x.op).2.1 x.b) && opR p f x (rR x.op).2.2 x.c)) &&
    (if x.op = 24 then decide (W (x.a + x.c) < f.regs) && decide (x.c < 64) else if x.op = 25 then decide (x.b < 63) && decide (0 < f.regs) else !decide (x.op = 38) || decide (W (x.c + 1) < f.regs))
def loopI (p : Pg) (f : FnD) : List Ins → Int → Bool
  | [], _ => true
  | x :: r, e => instrI p f x && (if x.op = 51 then !decide (W (e - 1) < 0) && loopI p f r (W (e - 1)) else if 0 < e then false else if x.op = 50 then !decide (x.b < 0) && loopI p f r x.b else !decide (e < 0) && loopI p f r e)
def loopR (p : Pg) (f : FnD) : List Ins → Int → Bool
  | [], _ => true
  | x :: r, e => if decide (0 < e) = decide (x.op = 51) then instrR p f x && loopR p f r (if x.op = 50 then x.b else if 0 < e then W (e - 1) else e) else false
def lastOk (l : List Ins) : Bool := decide (opAt l ((l.length : Int) - 1) = 30) || decide (opAt l ((l.length : Int) - 1) = 16)
def headF (f : FnD) : Bool := (((btw f.params 0 f.regs && decide (f.regs ≤ 64)) && !decide (f.code.length = 0)) && decide (f.code.length ≤ 1000)) && lastOk f.code
def fnI (p : Pg) (f : FnD) : Bool := headF f && loopI p f f.code 0
def fnR (p : Pg) (f : FnD) : Bool := (!decide (f.nm = []) && headF f) && loopR p f f.code 0
def kindB (k : Int) : Bool := decide (k = 0) || decide (k = 1)
def layB (l : List Int) : Bool := decide (l.length ≤ 64) && l.all kindB
def uniq (l : List (List UInt8)) : Bool := decide (l.Nodup) && decide ([] ∉ l)
def headP (p : Pg) : Bool := ((((decide (p.funcs.length ≤ 64) && decide (p.globals.length ≤ 64)) && decide (p.layouts.length ≤ 32)) && (decide (0 ≤ p.main) && decide (p.main < (p.funcs.length : Int)))) && decide (parAt p.funcs p.main = 0)) && p.layouts.all layB
def validI (p : Pg) : Bool := headP p && (p.globals.all (fun g => kindB g.kind) && (p.funcs.all (fnI p) && (uniq (p.funcs.map FnD.nm) && uniq (p.globals.map Gb.nm))))
def validR (p : Pg) : Bool := headP p && ((p.globals.all (fun g => !decide (g.nm = []) && kindB g.kind) && decide ((p.globals.map Gb.nm).Nodup)) && (p.funcs.all (fnR p) && decide ((p.funcs.map FnD.nm).Nodup)))
/-! #### the same -/
theorem opAt_def (l : List Ins) (v : Int) (h : v.toNat < l.length) : opAt l v = (l[v.toNat]).op := by simp [opAt, List.getElem?_eq_getElem h]
theorem parAt_def (l : List FnD) (v : Int) (h : v.toNat < l.length) : parAt l v = (l[v.toNat]).params := by simp [parAt, List.getElem?_eq_getElem h]
theorem op_cases {n : Int} (h : 1 ≤ n ∧ n ≤ 52) : n = 1 ∨ n = 2 ∨ n = 3 ∨ n = 4 ∨ n = 5 ∨ n = 6 ∨ n = 7 ∨ n = 8 ∨ n = 9 ∨ n = 10 ∨ n = 11 ∨ n = 12 ∨ n = 13 ∨ n = 14 ∨ n = 15 ∨ n = 16 ∨ n = 17 ∨ n = 18 ∨ n = 19 ∨ n = 20 ∨ n = 21 ∨ n = 22 ∨ n = 23 ∨ n = 24 ∨ n = 25 ∨ n = 26 ∨ n = 27 ∨ n = 28 ∨ n = 29 ∨ n = 30 ∨ n = 31 ∨ n = 32 ∨ n = 33 ∨ n = 34 ∨ n = 35 ∨ n = 36 ∨ n = 37 ∨ n = 38 ∨ n = 39 ∨ n = 40 ∨ n = 41 ∨ n = 42 ∨ n = 43 ∨ n = 44 ∨ n = 45 ∨ n = 46 ∨ n = 47 ∨ n = 48 ∨ n = 49 ∨ n = 50 ∨ n = 51 ∨ n = 52 := by omega
structure Good (p : Pg) (f : FnD) : Prop where
  nf : p.funcs.length ≤ 64
  ng : p.globals.length ≤ 64
  nl : p.layouts.length ≤ 32
  nc : f.code.length ≤ 1000
  r0 : 0 ≤ f.regs
  r1 : f.regs ≤ 64
  pr : ∀ v, 0 ≤ parAt p.funcs v ∧ parAt p.funcs v ≤ 64
theorem role_reg {p : Pg} {f : FnD} (h : Good p f) (v : Int) : btw v 0 (W (f.regs - 1)) = (decide (0 ≤ v) && decide (v < f.regs)) := by
  have := h.r0; have := h.r1
  rw [W_id (by omega) (by omega), btw, Bool.eq_iff_iff]; simp; omega
theorem role_dst {p : Pg} {f : FnD} (h : Good p f) (v : Int) : btw v (-1) (W (f.regs - 1)) = (decide (-1 ≤ v) && decide (v < f.regs)) := by
  have := h.r0; have := h.r1
  rw [W_id (by omega) (by omega), btw, Bool.eq_iff_iff]; simp; omega
theorem role_len (n : Nat) (h : n ≤ 1000) (v : Int) : btw v 0 (W ((n : Int) - 1)) = (decide (0 ≤ v) && decide (v < (n : Int))) := by
  rw [W_id (by omega) (by omega), btw, Bool.eq_iff_iff]; simp; omega
theorem instr_eq {p : Pg} {f : FnD} (h : Good p f) (x : Ins) : instrI p f x = instrR p f x := by
  by_cases ho : 1 ≤ x.op ∧ x.op ≤ 52
  case neg => simp [instrI, instrR, ho]
  have hr0 := h.r0; have hr1 := h.r1
  have l1 := role_reg h; have l2 := role_dst h; have l3 := role_len _ h.nc; have l4 := role_len _ (Nat.le_trans h.ng (by decide)); have l5 := role_len _ (Nat.le_trans h.nl (by decide)); have l6 := role_len _ (Nat.le_trans h.nf (by decide))
  unfold instrI instrR
  rcases op_cases ho with e | e | e | e | e | e | e | e | e | e | e | e | e | e | e | e | e | e | e | e | e | e | e | e | e | e | e | e | e | e | e | e | e | e | e | e | e | e | e | e | e | e | e | e | e | e | e | e | e | e | e | e
  all_goals first
    | (simp [e, rI, rR, opI, opR, l1, l2, l3, l4, l5, l6]; done)
    | (have hp := h.pr x.b; generalize parAt p.funcs x.b = q at hp; simp [e, rI, rR, opI, opR, l1, l2, l3, l4, l5, l6]; rw [Bool.eq_iff_iff]; simp [btw, W, IntKind.wrap_i64] <;> omega)
    | (have hp := h.pr x.b; simp [e, rI, rR, opI, opR, l1, l2, l3, l4, l5, l6]; rw [Bool.eq_iff_iff]; simp [btw]; done)
    | (have hp := h.pr x.b; simp [e, rI, rR, opI, opR, l1, l2, l3, l4, l5, l6]; simp [btw]; done)
    | (have hp := h.pr x.b; simp [e, rI, rR, opI, opR, l1, l2, l3, l4, l5, l6]; rw [Bool.eq_iff_iff]; simp [btw, W, IntKind.wrap_i64]; generalize parAt p.funcs x.b = q at hp ⊢; omega)
    | trace_state
theorem instr_sel {p : Pg} {f : FnD} {x : Ins} (h : instrI p f x = true) (ho : x.op = 50) : 0 ≤ x.b ∧ x.b ≤ 8 := by
  simp only [instrI, ho, rI, Bool.and_eq_true] at h
  have := h.1.1.2
  simpa [opI, btw] using this
theorem loop_eq {p : Pg} {f : FnD} (h : Good p f) : ∀ (l : List Ins) (e : Int), 0 ≤ e → e ≤ 8 → loopI p f l e = loopR p f l e
  | [], _, _, _ => rfl
  | x :: r, e, h0, h8 => by
    have ih := loop_eq h r
    have hi := instr_eq h x
    unfold loopI loopR
    rw [← hi]
    have w : W (e - 1) = e - 1 := W_id (by omega) (by omega)
    rw [w]
    by_cases h51 : x.op = 51
    · have h50 : ¬ x.op = 50 := by omega
      by_cases hp : 0 < e
      · have : ¬ e - 1 < 0 := by omega
        simp [h51, hp, this, ih (e - 1) (by omega) (by omega)]
      · have : e - 1 < 0 := by omega
        simp [h51, hp, this]
    · by_cases hp : 0 < e
      · simp [h51, hp]
      · have he : e = 0 := by omega
        subst he
        by_cases h50 : x.op = 50
        · cases hx : instrI p f x with
          | false => simp
          | true =>
            obtain ⟨b0, b8⟩ := instr_sel hx h50
            have : ¬ x.b < 0 := by omega
            simp [h50, this, ih x.b b0 b8]
        · simp [h51, h50, ih 0 (by omega) (by omega)]
theorem headF_reg {f : FnD} (h : headF f = true) : (0 ≤ f.params ∧ f.params ≤ f.regs) ∧ f.regs ≤ 64 ∧ f.code.length ≤ 1000 := by
  simp only [headF, btw, Bool.and_eq_true, decide_eq_true_eq] at h
  exact ⟨h.1.1.1.1, h.1.1.1.2, h.1.2⟩
theorem good_of {p : Pg} (hp : headP p = true) (hf : ∀ f ∈ p.funcs, headF f = true) : ∀ f ∈ p.funcs, Good p f := by
  intro f hm
  simp only [headP, Bool.and_eq_true, decide_eq_true_eq] at hp
  obtain ⟨⟨⟨⟨⟨h1, h2⟩, h3⟩, _⟩, _⟩, _⟩ := hp
  obtain ⟨g1, g2, g3⟩ := headF_reg (hf f hm)
  refine ⟨h1, h2, h3, g3, by omega, g2, fun v => ?_⟩
  unfold parAt
  split
  · rename_i y hy
    obtain ⟨k1, k2, _⟩ := headF_reg (hf y (List.mem_of_getElem? hy))
    omega
  · omega
theorem valid_eq (p : Pg) : validI p = validR p := by
  rw [Bool.eq_iff_iff]
  unfold validI validR
  simp only [Bool.and_eq_true, List.all_eq_true, uniq, decide_eq_true_eq, fnI, fnR, Bool.not_eq_true', decide_eq_false_iff_not]
  constructor
  · rintro ⟨hh, hg, hf, ⟨hn, hne⟩, hn2, hne2⟩
    have hG := good_of hh fun f hm => (hf f hm).1
    refine ⟨hh, ⟨fun g hm => ⟨fun e => hne2 (List.mem_map.2 ⟨g, hm, e⟩), hg g hm⟩, hn2⟩, fun f hm => ⟨⟨fun e => hne (List.mem_map.2 ⟨f, hm, e⟩), (hf f hm).1⟩, ?_⟩, hn⟩
    rw [← loop_eq (hG f hm) _ 0 (by omega) (by omega)]
    exact (hf f hm).2
  · rintro ⟨hh, ⟨hg, hn2⟩, hf, hn⟩
    have hG := good_of hh fun f hm => (hf f hm).1.2
    refine ⟨hh, fun g hm => (hg g hm).2, fun f hm => ⟨(hf f hm).1.2, ?_⟩, ⟨hn, fun hm => ?_⟩, hn2, fun hm => ?_⟩
    · rw [loop_eq (hG f hm) _ 0 (by omega) (by omega)]
      exact (hf f hm).2
    · obtain ⟨f, hm, e⟩ := List.mem_map.1 hm
      exact (hf f hm).1.1 e
    · obtain ⟨g, hm, e⟩ := List.mem_map.1 hm
      exact (hg g hm).1 e
end Go.Gv
