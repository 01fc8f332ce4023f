/- Parts of the proof. -/
import Derived.Test.YtfhhgjbcenhdeaaGreatDoorF5
import Derived.Test.YtfhhgjbcenhdeaaGreatDoorF6
import Derived.KernelRfl
import Derived.Lib.SlicesCompact
import Derived.Lib.SlicesS
set_option linter.unusedSimpArgs false
set_option linter.unusedVariables false
namespace Go.Gv
open Go Go.FM
set_option maxRecDepth 100000
set_option maxHeartbeats 40000000
structure Ins where
 op : Int
 a : Int
 b : Int
 c : Int
 d : Int
 deriving DecidableEq
structure FnD where
 name : ByteArray
 params : Int
 regs : Int
 code : List Ins
structure Gb where
 name : ByteArray
 kind : Int
def FnD.nm (f : FnD) : List UInt8 := f.name.data.toList
def Gb.nm (f : Gb) : List UInt8 := f.name.data.toList
structure Pg where
 funcs : List FnD
 globals : List Gb
 layouts : List (List Int)
 main : Int
abbrev W (n : Int) : Int := IntKind.wrap .i64 n
theorem W_id {n : Int} (h : -9223372036854775808 <= n) (h' : n < 9223372036854775808) : W n = n := by
 unfold W; rw [IntKind.wrap_i64]; omega
def btw (v lo hi : Int) : Bool := decide (lo <= v) && decide (v <= hi)
def opAt (l : List Ins) (v : Int) : Int := match l[v.toNat]? with
 | some y => y.op
 | none => 0
def a5v (l : List FnD) (v : Int) : Int := match l[v.toNat]? with
 | some y => y.params
 | none => 0
def rI : Int -> Int × Int × Int
 | 1 => (100, 105, 45)
 | 2 => (100, 45, 45)
 | 3 => (100, 115, 45)
 | 4 => (100, 115, 115)
 | 5 => (100, 115, 115)
 | 6 => (100, 115, 115)
 | 7 => (100, 115, 115)
 | 8 => (100, 115, 115)
 | 9 => (100, 115, 45)
 | 10 => (100, 115, 45)
 | 11 => (100, 115, 115)
 | 12 => (100, 115, 115)
 | 13 => (100, 115, 115)
 | 14 => (100, 115, 115)
 | 15 => (100, 115, 45)
 | 16 => (45, 45, 116)
 | 17 => (115, 45, 116)
 | 18 => (100, 103, 45)
 | 19 => (100, 115, 110)
 | 20 => (100, 115, 115)
 | 21 => (100, 108, 45)
 | 22 => (100, 115, 45)
 | 23 => (100, 115, 45)
 | 24 => (100, 99, 107)
 | 25 => (100, 112, 45)
 | 26 => (68, 102, 97)
 | 27 => (115, 45, 45)
 | 28 => (45, 102, 97)
 | 29 => (115, 45, 45)
 | 30 => (83, 45, 45)
 | 31 => (45, 102, 97)
 | 32 => (115, 45, 45)
 | 33 => (100, 115, 45)
 | 34 => (115, 115, 45)
 | 35 => (100, 115, 45)
 | 36 => (115, 115, 45)
 | 37 => (100, 115, 115)
 | 38 => (100, 115, 115)
 | 39 => (115, 45, 45)
 | 40 => (115, 45, 45)
 | 41 => (115, 45, 45)
 | 42 => (115, 45, 45)
 | 43 => (115, 115, 45)
 | 44 => (115, 45, 45)
 | 45 => (115, 45, 116)
 | 46 => (115, 45, 45)
 | 47 => (115, 115, 45)
 | 48 => (68, 115, 68)
 | 49 => (115, 45, 45)
 | 50 => (100, 120, 98)
 | 51 => (115, 98, 118)
 | 52 => (115, 45, 45)
 | _ => (0, 0, 0)
def rR : Int -> Int × Int × Int
 | 1 => (100, 105, 45)
 | 2 => (100, 45, 45)
 | 3 => (100, 114, 45)
 | 4 => (100, 114, 114)
 | 5 => (100, 114, 114)
 | 6 => (100, 114, 114)
 | 7 => (100, 114, 114)
 | 8 => (100, 114, 114)
 | 9 => (100, 114, 45)
 | 10 => (100, 114, 45)
 | 11 => (100, 114, 114)
 | 12 => (100, 114, 114)
 | 13 => (100, 114, 114)
 | 14 => (100, 114, 114)
 | 15 => (100, 114, 45)
 | 16 => (45, 45, 106)
 | 17 => (114, 45, 106)
 | 18 => (100, 103, 45)
 | 19 => (100, 114, 110)
 | 20 => (100, 114, 114)
 | 21 => (100, 108, 45)
 | 22 => (100, 114, 45)
 | 23 => (100, 114, 45)
 | 24 => (100, 49, 110)
 | 25 => (100, 110, 45)
 | 26 => (68, 102, 97)
 | 27 => (114, 45, 45)
 | 28 => (45, 102, 97)
 | 29 => (114, 45, 45)
 | 30 => (82, 45, 45)
 | 31 => (45, 102, 97)
 | 32 => (114, 45, 45)
 | 33 => (100, 114, 45)
 | 34 => (114, 114, 45)
 | 35 => (100, 114, 45)
 | 36 => (114, 114, 45)
 | 37 => (100, 114, 114)
 | 38 => (100, 114, 114)
 | 39 => (114, 45, 45)
 | 40 => (114, 45, 45)
 | 41 => (114, 45, 45)
 | 42 => (114, 45, 45)
 | 43 => (114, 114, 45)
 | 44 => (114, 45, 45)
 | 45 => (114, 45, 106)
 | 46 => (114, 45, 45)
 | 47 => (114, 114, 45)
 | 48 => (68, 114, 68)
 | 49 => (114, 45, 45)
 | 50 => (100, 115, 98)
 | 51 => (114, 98, 99)
 | 52 => (114, 45, 45)
 | _ => (0, 0, 0)
def opI (p : Pg) (f : FnD) (x : Ins) (role v : Int) : Bool :=
 if role = 100 \/ role = 115 then btw v 0 (W (f.regs - 1))
 else if role = 68 \/ role = 83 then btw v (-1) (W (f.regs - 1))
 else if role = 116 then btw v 0 (W ((f.code.length : Int) - 1)) && !decide (opAt f.code v = 51)
 else if role = 103 then btw v 0 (W ((p.globals.length : Int) - 1))
 else if role = 108 then btw v 0 (W ((p.layouts.length : Int) - 1))
 else if role = 102 then (btw v 0 (W ((p.funcs.length : Int) - 1)) && btw x.c 0 f.regs) && decide (a5v p.funcs v <= W (f.regs - x.c))
 else if role = 99 then btw v 0 (W ((p.funcs.length : Int) - 1)) && decide (a5v p.funcs v = 1)
 else if role = 97 then decide (0 <= v)
 else if role = 110 then btw v 0 64
 else if role = 107 then btw v 0 63 && decide (W (x.a + v) < f.regs)
 else if role = 112 then btw v 0 62 && decide (0 < f.regs)
 else if role = 120 then btw v 0 8
 else if role = 98 then decide (v = 0) || decide (v = 1)
 else if role = 118 then btw v (W (W (W (0 - x.b) - 1) + W (2 * x.b))) (W (f.regs - 1))
 else if role = 105 then true
 else decide (v = 0)
def opR (p : Pg) (f : FnD) (x : Ins) (role v : Int) : Bool :=
 if role = 100 \/ role = 114 then decide (0 <= v) && decide (v < f.regs)
 else if role = 68 \/ role = 82 then decide (-1 <= v) && decide (v < f.regs)
 else if role = 110 then decide (0 <= v) && decide (v <= 64)
 else if role = 106 then (decide (0 <= v) && decide (v < (f.code.length : Int))) && !decide (opAt f.code v = 51)
 else if role = 103 then decide (0 <= v) && decide (v < (p.globals.length : Int))
 else if role = 108 then decide (0 <= v) && decide (v < (p.layouts.length : Int))
 else if role = 102 then ((decide (0 <= v) && decide (v < (p.funcs.length : Int))) && decide (0 <= x.c)) && decide (x.c <= W (f.regs - a5v p.funcs v))
 else if role = 49 then (decide (0 <= v) && decide (v < (p.funcs.length : Int))) && decide (a5v p.funcs v = 1)
 else if role = 97 then decide (0 <= v)
 else if role = 115 then decide (0 <= v) && decide (v <= 8)
 else if role = 98 then decide (v = 0) || decide (v = 1)
 else if role = 99 then (decide (-1 <= v) && decide (v < f.regs)) && (decide (x.b = 0) || decide (0 <= v))
 else if role = 45 then decide (v = 0)
 else true
def a9a (p : Pg) (f : FnD) (x : Ins) : Bool :=
 (((((decide (1 <= x.op /\ x.op <= 52) && decide (0 <= x.d)) && opI p f x (rI x.op).1 x.a) && opI p f x (rI x.op).2.1 x.b) && opI p f x (rI x.op).2.2 x.c)) && (!decide (x.op = 38) || decide (x.c < W (f.regs - 1)))
def a8h (p : Pg) (f : FnD) (x : Ins) : Bool :=
 (((((decide (1 <= x.op /\ x.op <= 52) && decide (0 <= x.d)) && opR p f x (rR x.op).1 x.a) && opR p f x (rR x.op).2.1 x.b) && opR p f x (rR x.op).2.2 x.c)) &&
   (if x.op = 24 then decide (W (x.a + x.c) < f.regs) && decide (x.c < 64) else if x.op = 25 then decide (x.b < 63) && decide (0 < f.regs) else !decide (x.op = 38) || decide (W (x.c + 1) < f.regs))
def b2j (p : Pg) (f : FnD) : List Ins -> Int -> Bool
 | [], _ => true
 | x :: r, e => a9a p f x && (if x.op = 51 then !decide (W (e - 1) < 0) && b2j p f r (W (e - 1)) else if 0 < e then false else if x.op = 50 then !decide (x.b < 0) && b2j p f r x.b else !decide (e < 0) && b2j p f r e)
def b1o (p : Pg) (f : FnD) : List Ins -> Int -> Bool
 | [], _ => true
 | x :: r, e => if decide (0 < e) = decide (x.op = 51) then a8h p f x && b1o p f r (if x.op = 50 then x.b else if 0 < e then W (e - 1) else e) else false
def a8z (l : List Ins) : Bool := decide (opAt l ((l.length : Int) - 1) = 30) || decide (opAt l ((l.length : Int) - 1) = 16)
def a9f (f : FnD) : Bool := (((btw f.params 0 f.regs && decide (f.regs <= 64)) && !decide (f.code.length = 0)) && decide (f.code.length <= 1000)) && a8z f.code
def fnI (p : Pg) (f : FnD) : Bool := a9f f && b2j p f f.code 0
def fnR (p : Pg) (f : FnD) : Bool := (!decide (f.nm = []) && a9f f) && b1o p f f.code 0
def a4d (k : Int) : Bool := decide (k = 0) || decide (k = 1)
def layB (l : List Int) : Bool := decide (l.length <= 64) && l.all a4d
def uniq (l : List (List UInt8)) : Bool := decide (l.Nodup) && decide ([] ∉ l)
def a6e (p : Pg) : Bool := ((((decide (p.funcs.length <= 64) && decide (p.globals.length <= 64)) && decide (p.layouts.length <= 32)) && (decide (0 <= p.main) && decide (p.main < (p.funcs.length : Int)))) && decide (a5v p.funcs p.main = 0)) && p.layouts.all layB
def a7d (p : Pg) : Bool := a6e p && (p.globals.all (fun g => a4d g.kind) && (p.funcs.all (fnI p) && (uniq (p.funcs.map FnD.nm) && uniq (p.globals.map Gb.nm))))
def a2c (p : Pg) : Bool := a6e p && ((p.globals.all (fun g => !decide (g.nm = []) && a4d g.kind) && decide ((p.globals.map Gb.nm).Nodup)) && (p.funcs.all (fnR p) && decide ((p.funcs.map FnD.nm).Nodup)))
theorem b0j (l : List Ins) (v : Int) (h : v.toNat < l.length) : opAt l v = (l[v.toNat]).op := by simp [opAt, gE_ h]
theorem a8d (l : List FnD) (v : Int) (h : v.toNat < l.length) : a5v l v = (l[v.toNat]).params := by simp [a5v, gE_ h]
theorem b4r {n : Int} (h : 1 <= n /\ n <= 52) : n = 1 \/ n = 2 \/ n = 3 \/ n = 4 \/ n = 5 \/ n = 6 \/ n = 7 \/ n = 8 \/ n = 9 \/ n = 10 \/ n = 11 \/ n = 12 \/ n = 13 \/ n = 14 \/ n = 15 \/ n = 16 \/ n = 17 \/ n = 18 \/ n = 19 \/ n = 20 \/ n = 21 \/ n = 22 \/ n = 23 \/ n = 24 \/ n = 25 \/ n = 26 \/ n = 27 \/ n = 28 \/ n = 29 \/ n = 30 \/ n = 31 \/ n = 32 \/ n = 33 \/ n = 34 \/ n = 35 \/ n = 36 \/ n = 37 \/ n = 38 \/ n = 39 \/ n = 40 \/ n = 41 \/ n = 42 \/ n = 43 \/ n = 44 \/ n = 45 \/ n = 46 \/ n = 47 \/ n = 48 \/ n = 49 \/ n = 50 \/ n = 51 \/ n = 52 := by omega
structure Good (p : Pg) (f : FnD) : Prop where
 nf : p.funcs.length <= 64
 ng : p.globals.length <= 64
 nl : p.layouts.length <= 32
 nc : f.code.length <= 1000
 r0 : 0 <= f.regs
 r1 : f.regs <= 64
 pr : ∀ v, 0 <= a5v p.funcs v /\ a5v p.funcs v <= 64
theorem d9g {p : Pg} {f : FnD} (h : Good p f) (v : Int) : btw v 0 (W (f.regs - 1)) = (decide (0 <= v) && decide (v < f.regs)) := by
 have := h.r0; have := h.r1
 rw [W_id (by omega) (by omega), btw, Bool.eq_iff_iff]; simp; omega
theorem d9h {p : Pg} {f : FnD} (h : Good p f) (v : Int) : btw v (-1) (W (f.regs - 1)) = (decide (-1 <= v) && decide (v < f.regs)) := by
 have := h.r0; have := h.r1
 rw [W_id (by omega) (by omega), btw, Bool.eq_iff_iff]; simp; omega
theorem b4n (n : Nat) (h : n <= 1000) (v : Int) : btw v 0 (W ((n : Int) - 1)) = (decide (0 <= v) && decide (v < (n : Int))) := by
 rw [W_id (by omega) (by omega), btw, Bool.eq_iff_iff]; simp; omega
theorem e0l {p : Pg} {f : FnD} (h : Good p f) (x : Ins) : a9a p f x = a8h p f x := by
 by_cases ho : 1 <= x.op /\ x.op <= 52
 case neg => simp [a9a, a8h, ho]
 have hr0 := h.r0; have hr1 := h.r1
 have l1 := d9g h; have l2 := d9h h; have l3 := b4n _ h.nc; have l4 := b4n _ (Nat.le_trans h.ng (by decide)); have l5 := b4n _ (Nat.le_trans h.nl (by decide)); have l6 := b4n _ (Nat.le_trans h.nf (by decide))
 unfold a9a a8h
 rcases b4r ho with e | e | e | e | e | e | e | e | e | e | e | e | e | e | e | e | e | e | e | e | e | e | e | e | e | e | e | e | e | e | e | e | e | e | e | e | e | e | e | e | e | e | e | e | e | e | e | e | e | e | e | e
 all_goals first
  | (simp [e, rI, rR, opI, opR, l1, l2, l3, l4, l5, l6]; done)
  | (have hp := h.pr x.b; generalize a5v p.funcs x.b = q at hp; simp [e, rI, rR, opI, opR, l1, l2, l3, l4, l5, l6]; rw [Bool.eq_iff_iff]; simp [btw, W, IntKind.wrap_i64] <;> omega)
  | (have hp := h.pr x.b; simp [e, rI, rR, opI, opR, l1, l2, l3, l4, l5, l6]; rw [Bool.eq_iff_iff]; simp [btw]; done)
  | (have hp := h.pr x.b; simp [e, rI, rR, opI, opR, l1, l2, l3, l4, l5, l6]; simp [btw]; done)
  | (have hp := h.pr x.b; simp [e, rI, rR, opI, opR, l1, l2, l3, l4, l5, l6]; rw [Bool.eq_iff_iff]; simp [btw, W, IntKind.wrap_i64]; generalize a5v p.funcs x.b = q at hp ⊢; omega)
  | trace_state
theorem d4o {p : Pg} {f : FnD} {x : Ins} (h : a9a p f x = true) (ho : x.op = 50) : 0 <= x.b /\ x.b <= 8 := by
 simp only [a9a, ho, rI, bA_] at h
 have := h.1.1.2
 simpa [opI, btw] using this
theorem c4b {p : Pg} {f : FnD} (h : Good p f) : ∀ (l : List Ins) (e : Int), 0 <= e -> e <= 8 -> b2j p f l e = b1o p f l e
 | [], _, _, _ => rfl
 | x :: r, e, h0, h8 => by
   have ih := c4b h r
   have hi := e0l h x
   unfold b2j b1o
   rw [<- hi]
   have w : W (e - 1) = e - 1 := W_id (by omega) (by omega)
   rw [w]
   by_cases h51 : x.op = 51
   . have h50 : ¬ x.op = 50 := by omega
     by_cases hp : 0 < e
     . have : ¬ e - 1 < 0 := by omega
       simp [h51, hp, this, ih (e - 1) (by omega) (by omega)]
     . have : e - 1 < 0 := by omega
       simp [h51, hp, this]
   . by_cases hp : 0 < e
     . simp [h51, hp]
     . have he : e = 0 := by omega
       subst he
       by_cases h50 : x.op = 50
       . cases hx : a9a p f x with
         | false => simp
         | true =>
           obtain ⟨b0, b8⟩ := d4o hx h50
           have : ¬ x.b < 0 := by omega
           simp [h50, this, ih x.b b0 b8]
       . simp [h51, h50, ih 0 (by omega) (by omega)]
theorem b6j {f : FnD} (h : a9f f = true) : (0 <= f.params /\ f.params <= f.regs) /\ f.regs <= 64 /\ f.code.length <= 1000 := by
 simp only [a9f, btw, bA_, dE_] at h
 exact ⟨h.1.1.1.1, h.1.1.1.2, h.1.2⟩
theorem d5i {p : Pg} (hp : a6e p = true) (hf : ∀ f ∈ p.funcs, a9f f = true) : ∀ f ∈ p.funcs, Good p f := by
 intro f hm
 simp only [a6e, bA_, dE_] at hp
 obtain ⟨⟨⟨⟨⟨h1, h2⟩, h3⟩, _⟩, _⟩, _⟩ := hp
 obtain ⟨g1, g2, g3⟩ := b6j (hf f hm)
 refine ⟨h1, h2, h3, g3, by omega, g2, fun v => ?_⟩
 unfold a5v
 split
 . rename_i y hy
   obtain ⟨k1, k2, _⟩ := b6j (hf y (List.mem_of_getElem? hy))
   omega
 . omega
theorem b9d (p : Pg) : a7d p = a2c p := by
 rw [Bool.eq_iff_iff]
 unfold a7d a2c
 simp only [bA_, List.all_eq_true, uniq, dE_, fnI, fnR, Bool.not_eq_true', decide_eq_false_iff_not]
 constructor
 . rintro ⟨hh, hg, hf, ⟨hn, hne⟩, hn2, hne2⟩
   have hG := d5i hh fun f hm => (hf f hm).1
   refine ⟨hh, ⟨fun g hm => ⟨fun e => hne2 (List.mem_map.2 ⟨g, hm, e⟩), hg g hm⟩, hn2⟩, fun f hm => ⟨⟨fun e => hne (List.mem_map.2 ⟨f, hm, e⟩), (hf f hm).1⟩, ?_⟩, hn⟩
   rw [<- c4b (hG f hm) _ 0 (by omega) (by omega)]
   exact (hf f hm).2
 . rintro ⟨hh, ⟨hg, hn2⟩, hf, hn⟩
   have hG := d5i hh fun f hm => (hf f hm).1.2
   refine ⟨hh, fun g hm => (hg g hm).2, fun f hm => ⟨(hf f hm).1.2, ?_⟩, ⟨hn, fun hm => ?_⟩, hn2, fun hm => ?_⟩
   . rw [c4b (hG f hm) _ 0 (by omega) (by omega)]
     exact (hf f hm).2
   . obtain ⟨f, hm, e⟩ := List.mem_map.1 hm
     exact (hf f hm).1.1 e
   . obtain ⟨g, hm, e⟩ := List.mem_map.1 hm
     exact (hg g hm).1 e
end Go.Gv
namespace Go.Je
open Go Go.FM Go.Proofs
set_option maxRecDepth 100000
set_option maxHeartbeats 40000000
theorem a0y : Tryz.prog.follows .mixedOrders = true := by kernel_rfl
@[simp] theorem b0x : Program.eqGuardType Tryz.prog (Program.depth Tryz.prog) 3 = false /\ arT Tryz.prog 46 = none /\ b7t Tryz.prog 3 = false /\ byT Tryz.prog 98 = (some 16) /\ fldT Tryz.prog 98 0 = (some 0) /\ fldT Tryz.prog 98 1 = (some 1) /\ intT Tryz.prog 3 = (some Go.IntKind.i64) := by and_intros <;> kernel_rfl
@[simp] theorem c0u : kdT Tryz.prog 3 = (some (Go.FM.Kd.int Go.IntKind.i64)) := by kernel_rfl
@[simp] theorem c0t : kdT Tryz.prog 98 = none := by kernel_rfl
@[simp] theorem c4l : ldT Tryz.prog 3 = (some none) := by kernel_rfl
@[simp] theorem f5r : nilT Tryz.prog 3 = none /\ a5d Tryz.prog 98 = (some ((0, 1) :: ((1, 1) :: []))) /\ slT Tryz.prog 46 = (some (98, 2)) /\ stT Tryz.prog 3 = none := by and_intros <;> kernel_rfl
@[simp] theorem c0s : stT Tryz.prog 98 = (some ((Go.FM.Kd.int Go.IntKind.i64) :: ((Go.FM.Kd.int Go.IntKind.i64) :: []))) := by kernel_rfl
@[simp] theorem f3v : strT Tryz.prog 46 = false /\ a4l Tryz.prog 98 = (some ((FV.int Go.IntKind.i64 0) :: ((FV.int Go.IntKind.i64 0) :: []))) /\ c1h Tryz.prog 4 = (some (FV.bool false)) := by and_intros <;> kernel_rfl
theorem wr (n : Int) (h : -9223372036854775808 <= n) (h' : n < 9223372036854775808) : IntKind.wrap .i64 n = n := by
 rw [IntKind.wrap_i64]; omega
end Go.Je
namespace Go.Gv
open Go Go.FM
set_option maxRecDepth 100000
set_option maxHeartbeats 40000000
theorem c2d {α : Type} {l : List α} {i j : Nat} (hi : i < l.length) (hj : j < l.length) (hij : j < i) (h : l[j] = l[i]) : ¬ l.Nodup := by
 intro hn
 have := List.pairwise_iff_getElem.mp hn j i hj hi hij
 exact this h
theorem nodup_iff {α : Type} {l : List α} (h : ∀ (i j : Nat) (hi : i < l.length) (hj : j < l.length), j < i -> l[j] ≠ l[i]) : l.Nodup := by
 refine List.pairwise_iff_getElem.mpr ?_
 intro i j hi hj hij
 exact h j i hj hi hij
theorem e4u {p : Pg} (h : a6e p = false) : a2c p = false := by simp [a2c, h]
theorem vf_g {p : Pg} {i : Nat} (hi : i < p.globals.length) (h : p.globals[i].nm = [] \/ a4d p.globals[i].kind = false) : a2c p = false := by
 have : p.globals.all (fun g => !decide (g.nm = []) && a4d g.kind) = false := by
  rw [<- Bool.not_eq_true]
  intro hh
  have := List.all_eq_true.mp hh _ (gm_ hi)
  rcases h with h | h <;> simp [h] at this
 simp only [a2c, this, Bool.false_and, Bool.and_false]
theorem f5w {p : Pg} {i j : Nat} (hi : i < p.globals.length) (hj : j < i) (h : (p.globals[j]'(by omega)).nm = p.globals[i].nm) : a2c p = false := by
 have : ¬ (p.globals.map Gb.nm).Nodup := c2d (i := i) (j := j) (by simpa using hi) (by simp; omega) hj (by simpa using h)
 simp [a2c, this]
theorem vf_f {p : Pg} {i : Nat} (hi : i < p.funcs.length) (h : fnR p p.funcs[i] = false) : a2c p = false := by
 have : p.funcs.all (fnR p) = false := by
  rw [<- Bool.not_eq_true]
  intro hh
  have := List.all_eq_true.mp hh _ (gm_ hi)
  simp [h] at this
 simp [a2c, this]
theorem f5x {p : Pg} {i j : Nat} (hi : i < p.funcs.length) (hj : j < i) (h : (p.funcs[j]'(by omega)).nm = p.funcs[i].nm) : a2c p = false := by
 have : ¬ (p.funcs.map FnD.nm).Nodup := c2d (i := i) (j := j) (by simpa using hi) (by simp; omega) hj (by simpa using h)
 simp [a2c, this]
def gOk (p : Pg) (i : Nat) : Prop := (∀ k (hk : k < p.globals.length), k < i -> ¬ p.globals[k].nm = [] /\ a4d p.globals[k].kind = true) /\ ∀ k j (hk : k < p.globals.length) (hj : j < p.globals.length), k < i -> j < k -> p.globals[j].nm ≠ p.globals[k].nm
def fOk (p : Pg) (i : Nat) : Prop := (∀ k (hk : k < p.funcs.length), k < i -> fnR p p.funcs[k] = true) /\ ∀ k j (hk : k < p.funcs.length) (hj : j < p.funcs.length), k < i -> j < k -> p.funcs[j].nm ≠ p.funcs[k].nm
def gDi (p : Pg) (i n : Nat) : Prop := ∀ j (hi : i < p.globals.length) (hj : j < p.globals.length), j < n -> p.globals[j].nm ≠ p.globals[i].nm
def fDi (p : Pg) (i n : Nat) : Prop := ∀ j (hi : i < p.funcs.length) (hj : j < p.funcs.length), j < n -> p.funcs[j].nm ≠ p.funcs[i].nm
theorem f8d (p : Pg) : gOk p 0 := ⟨fun _ _ h => absurd h (by omega), fun _ _ _ _ h => absurd h (by omega)⟩
theorem f8o (p : Pg) : fOk p 0 := ⟨fun _ _ h => absurd h (by omega), fun _ _ _ _ h => absurd h (by omega)⟩
theorem f8f (p : Pg) (i : Nat) : gDi p i 0 := fun _ _ _ h => absurd h (by omega)
theorem f8q (p : Pg) (i : Nat) : fDi p i 0 := fun _ _ _ h => absurd h (by omega)
theorem f8e {p : Pg} {i n : Nat} (h : gDi p i n) (hi : i < p.globals.length) (hn : n < p.globals.length) (e : p.globals[n].nm ≠ p.globals[i].nm) : gDi p i (n + 1) := by
 intro j hi' hj hjn
 by_cases hj' : j = n
 . subst hj'; exact e
 . exact h j hi' hj (by omega)
theorem f8p {p : Pg} {i n : Nat} (h : fDi p i n) (hi : i < p.funcs.length) (hn : n < p.funcs.length) (e : p.funcs[n].nm ≠ p.funcs[i].nm) : fDi p i (n + 1) := by
 intro j hi' hj hjn
 by_cases hj' : j = n
 . subst hj'; exact e
 . exact h j hi' hj (by omega)
theorem f8c {p : Pg} {i : Nat} (h : gOk p i) (hi : i < p.globals.length) (h1 : ¬ p.globals[i].nm = []) (h2 : a4d p.globals[i].kind = true) (hd : gDi p i i) : gOk p (i + 1) := by
 refine ⟨?_, ?_⟩
 . intro k hk hki
   by_cases e : k = i
   . subst e; exact ⟨h1, h2⟩
   . exact h.1 k hk (by omega)
 . intro k j hk hj hki hjk
   by_cases e : k = i
   . subst e; exact hd j hi hj hjk
   . exact h.2 k j hk hj (by omega) hjk
theorem f8n {p : Pg} {i : Nat} (h : fOk p i) (hi : i < p.funcs.length) (h1 : fnR p p.funcs[i] = true) (hd : fDi p i i) : fOk p (i + 1) := by
 refine ⟨?_, ?_⟩
 . intro k hk hki
   by_cases e : k = i
   . subst e; exact h1
   . exact h.1 k hk (by omega)
 . intro k j hk hj hki hjk
   by_cases e : k = i
   . subst e; exact hd j hi hj hjk
   . exact h.2 k j hk hj (by omega) hjk
theorem vt {p : Pg} (h : a6e p = true) (hg : gOk p p.globals.length) (hf : fOk p p.funcs.length) : a2c p = true := by
 have a1 : p.globals.all (fun g => !decide (g.nm = []) && a4d g.kind) = true := by
  rw [List.all_eq_true]
  intro g hm
  obtain ⟨k, hk, rfl⟩ := List.getElem_of_mem hm
  simp [hg.1 k hk hk]
 have a2 : (p.globals.map Gb.nm).Nodup := nodup_iff (by
  intro i j hi hj hij
  simp only [List.length_map] at hi hj
  simpa using hg.2 i j hi hj hi hij)
 have a3 : p.funcs.all (fnR p) = true := by
  rw [List.all_eq_true]
  intro g hm
  obtain ⟨k, hk, rfl⟩ := List.getElem_of_mem hm
  exact hf.1 k hk hk
 have a4 : (p.funcs.map FnD.nm).Nodup := nodup_iff (by
  intro i j hi hj hij
  simp only [List.length_map] at hi hj
  simpa using hf.2 i j hi hj hi hij)
 simp only [a2c, h, a1, a2, a3, a4, decide_true, Bool.and_true]
def layR (l : List (List Int)) : Bool := l.all layB && decide (l.length <= 32)
theorem d0d (p : Pg) : ((64 : Int) < (p.funcs.length : Int) /\ a6e p = false) \/ (¬ (64 : Int) < (p.funcs.length : Int) /\ (64 : Int) < (p.globals.length : Int) /\ a6e p = false) \/
 (¬ (64 : Int) < (p.funcs.length : Int) /\ ¬ (64 : Int) < (p.globals.length : Int) /\ layR p.layouts = false /\ a6e p = false) \/
 (¬ (64 : Int) < (p.funcs.length : Int) /\ ¬ (64 : Int) < (p.globals.length : Int) /\ layR p.layouts = true /\ p.main < 0 /\ a6e p = false) \/
 (¬ (64 : Int) < (p.funcs.length : Int) /\ ¬ (64 : Int) < (p.globals.length : Int) /\ layR p.layouts = true /\ ¬ p.main < 0 /\ (p.funcs.length : Int) <= p.main /\ a6e p = false) \/
 (¬ (64 : Int) < (p.funcs.length : Int) /\ ¬ (64 : Int) < (p.globals.length : Int) /\ layR p.layouts = true /\ ¬ p.main < 0 /\ ¬ (p.funcs.length : Int) <= p.main /\
  ∃ z : FnD, 0 <= p.main /\ p.funcs[p.main.toNat]? = some z /\ ¬ z.params = 0 /\ a6e p = false) \/
 (¬ (64 : Int) < (p.funcs.length : Int) /\ ¬ (64 : Int) < (p.globals.length : Int) /\ layR p.layouts = true /\ ¬ p.main < 0 /\ ¬ (p.funcs.length : Int) <= p.main /\
  ∃ z : FnD, 0 <= p.main /\ p.funcs[p.main.toNat]? = some z /\ z.params = 0 /\ a6e p = true) := by
 by_cases h1 : p.funcs.length <= 64
 case neg => exact .inl ⟨by omega, by simp [a6e]; omega⟩
 have h1' : ¬ (64 : Int) < (p.funcs.length : Int) := by omega
 refine .inr ?_
 by_cases h2 : p.globals.length <= 64
 case neg => exact .inl ⟨h1', by omega, by simp [a6e]; omega⟩
 have h2' : ¬ (64 : Int) < (p.globals.length : Int) := by omega
 refine .inr ?_
 cases h3 : layR p.layouts with
 | false => exact .inl ⟨h1', h2', rfl, by
  simp only [layR, Bool.and_eq_false_iff] at h3
  rcases h3 with h3 | h3 <;> simp only [a6e, h3, Bool.false_and, Bool.and_false]⟩
 | true =>
   refine .inr ?_
   simp only [layR, bA_] at h3
   by_cases h4 : p.main < 0
   . exact .inl ⟨h1', h2', rfl, h4, by
      have : decide (0 <= p.main) = false := by simp; omega
      simp only [a6e, this, Bool.false_and, Bool.and_false]⟩
   refine .inr ?_
   by_cases h5 : (p.funcs.length : Int) <= p.main
   . exact .inl ⟨h1', h2', rfl, h4, h5, by
      have : decide (p.main < (p.funcs.length : Int)) = false := by simp; omega
      simp only [a6e, this, Bool.false_and, Bool.and_false]⟩
   refine .inr ?_
   have hm : 0 <= p.main := by omega
   have hi : p.main.toNat < p.funcs.length := by omega
   have hp : a5v p.funcs p.main = (p.funcs[p.main.toNat]).params := a8d _ _ hi
   by_cases h6 : (p.funcs[p.main.toNat]).params = 0
   . refine .inr ⟨h1', h2', rfl, h4, h5, _, hm, gE_ hi, h6, ?_⟩
     have e1 : decide (0 <= p.main) = true := by simp; omega
     have e2 : decide (p.main < (p.funcs.length : Int)) = true := by simp; omega
     have e3 : decide (a5v p.funcs p.main = 0) = true := by rw [hp]; simp [h6]
     simp only [a6e, e1, e2, e3, h3.1, h3.2, h1, h2, decide_true, Bool.and_true]
   . refine .inl ⟨h1', h2', rfl, h4, h5, _, hm, gE_ hi, h6, ?_⟩
     have e3 : decide (a5v p.funcs p.main = 0) = false := by rw [hp]; simp [h6]
     simp only [a6e, e3, Bool.false_and, Bool.and_false]
theorem c8f (a b : List UInt8) : ((a == b) = true /\ a = b) \/ ((a == b) = false /\ ¬ a = b) := by
 by_cases h : a = b
 . left; simp [h]
 . right; simp [h]
theorem e0x (k : Int) : (k = 0 /\ a4d k = true) \/ (¬ k = 0 /\ k = 1 /\ a4d k = true) \/ (¬ k = 0 /\ ¬ k = 1 /\ a4d k = false) := by
 by_cases h : k = 0
 . left; simp [h, a4d]
 . by_cases h' : k = 1
   . right; left; simp [h', a4d]
   . right; right; simp [h, h', a4d]
theorem c1e {α : Type} (l : List α) (q : α -> Bool) {i : Nat} (h : i < l.length) : (l.drop i).all q = (q l[i] && (l.drop (i + 1)).all q) := by
 rw [List.drop_eq_getElem_cons h, List.all_cons]
def vI3 (p : Pg) : Bool := uniq (p.funcs.map FnD.nm) && uniq (p.globals.map Gb.nm)
def vI2 (p : Pg) (i : Nat) : Bool := (p.funcs.drop i).all (fnI p) && vI3 p
def vI1 (p : Pg) (i : Nat) : Bool := (p.globals.drop i).all (fun g => a4d g.kind) && vI2 p 0
def vI0 (p : Pg) (i : Nat) : Bool := (p.layouts.drop i).all layB && vI1 p 0
theorem f0j {p : Pg} {i : Nat} (h : i < p.layouts.length) : vI0 p i = (layB p.layouts[i] && vI0 p (i + 1)) := by
 unfold vI0; rw [c1e _ _ h, Bool.and_assoc]
theorem f0i {p : Pg} {i : Nat} (h : i < p.globals.length) : vI1 p i = (a4d p.globals[i].kind && vI1 p (i + 1)) := by
 unfold vI1; rw [c1e _ _ h, Bool.and_assoc]
theorem f0h {p : Pg} {i : Nat} (h : i < p.funcs.length) : vI2 p i = (fnI p p.funcs[i] && vI2 p (i + 1)) := by
 unfold vI2; rw [c1e _ _ h, Bool.and_assoc]
theorem e4x (p : Pg) : vI0 p p.layouts.length = vI1 p 0 := by simp [vI0]
theorem e4w (p : Pg) : vI1 p p.globals.length = vI2 p 0 := by simp [vI1]
theorem e4v (p : Pg) : vI2 p p.funcs.length = vI3 p := by simp [vI2]
theorem d1c (p : Pg) : vI3 p = (uniq ((p.funcs.map FnD.name).map (·.data.toList)) && uniq ((p.globals.map Gb.name).map (·.data.toList))) := by
 simp [vI3, List.map_map]; rfl
theorem c7e {l : List Int} (h : (64 : Int) < (l.length : Int)) : layB l = false := by
 have : ¬ l.length <= 64 := by omega
 simp [layB, this]
theorem d4h {l : List Int} (h : ¬ (64 : Int) < (l.length : Int)) : layB l = l.all a4d := by
 have : l.length <= 64 := by omega
 simp [layB, this]
theorem c4f (p : Pg) : ((64 : Int) < (p.funcs.length : Int) /\ a7d p = false) \/ (¬ (64 : Int) < (p.funcs.length : Int) /\ (64 : Int) < (p.globals.length : Int) /\ a7d p = false) \/
 (¬ (64 : Int) < (p.funcs.length : Int) /\ ¬ (64 : Int) < (p.globals.length : Int) /\ (32 : Int) < (p.layouts.length : Int) /\ a7d p = false) \/
 (¬ (64 : Int) < (p.funcs.length : Int) /\ ¬ (64 : Int) < (p.globals.length : Int) /\ ¬ (32 : Int) < (p.layouts.length : Int) /\ ¬ (0 <= p.main /\ p.main < (p.funcs.length : Int)) /\ a7d p = false) \/
 (¬ (64 : Int) < (p.funcs.length : Int) /\ ¬ (64 : Int) < (p.globals.length : Int) /\ ¬ (32 : Int) < (p.layouts.length : Int) /\ (0 <= p.main /\ p.main < (p.funcs.length : Int)) /\
  ∃ hz : p.main.toNat < p.funcs.length, ¬ (p.funcs[p.main.toNat]).params = 0 /\ a7d p = false) \/
 (¬ (64 : Int) < (p.funcs.length : Int) /\ ¬ (64 : Int) < (p.globals.length : Int) /\ ¬ (32 : Int) < (p.layouts.length : Int) /\ (0 <= p.main /\ p.main < (p.funcs.length : Int)) /\
  ∃ hz : p.main.toNat < p.funcs.length, (p.funcs[p.main.toNat]).params = 0 /\ vI0 p 0 = a7d p) := by
 have hf : a6e p = false -> a7d p = false := fun h => by simp [a7d, h]
 by_cases h1 : p.funcs.length <= 64
 case neg => exact .inl ⟨by omega, hf (by simp [a6e]; omega)⟩
 have h1' : ¬ (64 : Int) < (p.funcs.length : Int) := by omega
 refine .inr ?_
 by_cases h2 : p.globals.length <= 64
 case neg => exact .inl ⟨h1', by omega, hf (by simp [a6e]; omega)⟩
 have h2' : ¬ (64 : Int) < (p.globals.length : Int) := by omega
 refine .inr ?_
 by_cases h3 : p.layouts.length <= 32
 case neg => exact .inl ⟨h1', h2', by omega, hf (by simp [a6e]; omega)⟩
 have h3' : ¬ (32 : Int) < (p.layouts.length : Int) := by omega
 refine .inr ?_
 by_cases h4 : 0 <= p.main /\ p.main < (p.funcs.length : Int)
 case neg =>
  refine .inl ⟨h1', h2', h3', h4, hf ?_⟩
  have : (decide (0 <= p.main) && decide (p.main < (p.funcs.length : Int))) = false := by
   rw [<- Bool.not_eq_true]; intro hh; simp at hh; omega
  simp only [a6e, this, Bool.false_and, Bool.and_false]
 refine .inr ?_
 have hi : p.main.toNat < p.funcs.length := by omega
 have hp : a5v p.funcs p.main = (p.funcs[p.main.toNat]).params := a8d _ _ hi
 by_cases h6 : (p.funcs[p.main.toNat]).params = 0
 . refine .inr ⟨h1', h2', h3', h4, hi, h6, ?_⟩
   have e1 : decide (0 <= p.main) = true := by simp; omega
   have e2 : decide (p.main < (p.funcs.length : Int)) = true := by simp; omega
   have e3 : decide (a5v p.funcs p.main = 0) = true := by rw [hp]; simp [h6]
   simp only [a7d, a6e, e1, e2, e3, h1, h2, h3, decide_true, Bool.and_true, Bool.true_and, vI0, vI1, vI2, vI3, List.drop_zero]
 . refine .inl ⟨h1', h2', h3', h4, hi, h6, hf ?_⟩
   have e3 : decide (a5v p.funcs p.main = 0) = false := by rw [hp]; simp [h6]
   simp only [a6e, e3, Bool.false_and, Bool.and_false]
def f9t (n : Int) : Bool := decide (n = 33) || decide (n = 34)
def accC (f : Nat) (code : List Ins) (j : Nat) : List (Int × Int) := ((List.range j).filter (fun (k : Nat) => f9t (opAt code (k : Int)))).map (fun (k : Nat) => ((f : Int), (k : Int)))
def accP (fs : List FnD) : Nat -> List (Int × Int)
 | 0 => []
 | i + 1 => accP fs i ++ (match fs[i]? with | some y => accC i y.code y.code.length | none => [])
theorem d3l {code : List Ins} {j : Nat} (h : j < code.length) : opAt code (j : Int) = code[j].op := by
 rw [b0j _ _ (by simpa using h)]; rfl
def sites (b : Bool) (p : Pg) : List (Int × Int) := if b then accP p.funcs p.funcs.length else []
def mx0 (n : Int) : Int := if n > 0 then n else 0
def grN (p : Pg) : Nat -> Int
 | 0 => W ((p.globals.length : Int) + (p.layouts.length : Int))
 | i + 1 => match p.funcs[i]? with
   | some y => W (grN p i + W (W (1 + (y.code.length : Int)) + W ((mx0 y.regs).tdiv 4)))
   | none => grN p i
theorem f7y {p : Pg} {i : Nat} (h : i < p.funcs.length) : grN p (i + 1) = W (grN p i + W (W (1 + (p.funcs[i].code.length : Int)) + W ((mx0 p.funcs[i].regs).tdiv 4))) := by
 rw [grN, gE_ h]
def alO (n : Int) : Bool := decide (n = 21) || decide (n = 22) || decide (n = 23) || decide (n = 24)
theorem d7p (n : Int) : (n = 21 /\ alO n = true) \/ (¬ n = 21 /\ n = 22 /\ alO n = true) \/ (¬ n = 21 /\ ¬ n = 22 /\ n = 23 /\ alO n = true) \/ (¬ n = 21 /\ ¬ n = 22 /\ ¬ n = 23 /\ n = 24 /\ alO n = true) \/ (¬ n = 21 /\ ¬ n = 22 /\ ¬ n = 23 /\ ¬ n = 24 /\ alO n = false) := by
 by_cases h1 : n = 21
 . left; simp [h1, alO]
 by_cases h2 : n = 22
 . right; left; simp [h2, alO]
 by_cases h3 : n = 23
 . right; right; left; simp [h3, alO]
 by_cases h4 : n = 24
 . right; right; right; left; simp [h4, alO]
 . right; right; right; right; simp [h1, h2, h3, h4, alO]
def hasI (l : List Int) (n : Int) : Bool := decide (n ∈ l)
def noI (l : List Int) (n : Int) (i : Nat) : Prop := ∀ j (hj : j < l.length), j < i -> l[j] ≠ n
theorem f7k (l : List Int) (n : Int) : noI l n 0 := fun _ _ h => absurd h (by omega)
theorem f7j {l : List Int} {n : Int} {i : Nat} (h : noI l n i) (hi : i < l.length) (e : ¬ l[i] = n) : noI l n (i + 1) := fun j hj hji => by
 by_cases e' : j = i
 . subst e'; exact e
 . exact h j hj (by omega)
theorem d5e {l : List Int} {n : Int} {i : Nat} (hi : i < l.length) (e : l[i] = n) : hasI l n = true := by
 simp only [hasI, dE_, <- e]; exact gm_ hi
theorem d5d {l : List Int} {n : Int} (h : noI l n l.length) : hasI l n = false := by
 simp only [hasI, decide_eq_false_iff_not]
 intro hm
 obtain ⟨j, hj, e⟩ := List.getElem_of_mem hm
 exact h j hj hj e
def wk : List Int -> Int -> Nat
 | [], _ => 0
 | a :: r, n => if a < n then wk r n + 1 else 0
theorem f0f (l : List Int) (n : Int) : wk l n <= l.length := by
 induction l with
 | nil => simp [wk]
 | cons a r ih => simp only [wk, List.length_cons]; split <;> omega
theorem f0e {l : List Int} {n : Int} : ∀ j (hj : j < l.length), j < wk l n -> l[j] < n := by
 induction l with
 | nil => intro j hj; simp at hj
 | cons a r ih =>
   intro j hj hjw
   simp only [wk] at hjw
   split at hjw
   . cases j with
     | zero => simpa
     | succ j => simpa using ih j (by simpa using hj) (by omega)
   . omega
theorem f0g {l : List Int} {n : Int} (h : wk l n < l.length) : ¬ l[wk l n] < n := by
 induction l with
 | nil => simp at h
 | cons a r ih =>
   by_cases e : a < n
   . have hw : wk (a :: r) n = wk r n + 1 := by simp [wk, e]
     simp only [hw, List.length_cons, List.getElem_cons_succ] at h ⊢
     exact ih (by omega)
   . have hw : wk (a :: r) n = 0 := by simp [wk, e]
     simp only [hw, List.getElem_cons_zero]; exact e
theorem e4q {l : List Int} {n : Int} {i : Nat} (hi : i <= l.length) (h1 : ∀ j (hj : j < l.length), j < i -> l[j] < n) (h2 : ∀ h : i < l.length, ¬ l[i] < n) : wk l n = i := by
 have a1 := f0f l n
 rcases Nat.lt_trichotomy (wk l n) i with h | h | h
 . exact absurd (h1 _ (by omega) h) (f0g (by omega))
 . exact h
 . exact absurd (f0e i (by omega) h) (h2 (by omega))
def ltTo (l : List Int) (n : Int) (i : Nat) : Prop := ∀ j (hj : j < l.length), j < i -> l[j] < n
theorem f2k (l : List Int) (n : Int) : ltTo l n 0 := fun _ _ h => absurd h (by omega)
theorem f2j {l : List Int} {n : Int} {i : Nat} (h : ltTo l n i) (hi : i < l.length) (e : l[i] < n) : ltTo l n (i + 1) := fun j hj hji => by
 by_cases e' : j = i
 . subst e'; exact e
 . exact h j hj (by omega)
def a1x (l : List Int) (n : Int) : List Int := if l[wk l n]? = some n then l else l.take (wk l n) ++ n :: l.drop (wk l n)
theorem d8d {l : List Int} {n : Int} (h : ltTo l n l.length) : a1x l n = l ++ [n] := by
 have : wk l n = l.length := e4q (nr_ _) h (fun h => absurd h (by omega))
 simp [a1x, this]
theorem e4r {l : List Int} {n : Int} {i : Nat} (hi : i < l.length) (h : ltTo l n i) (e : l[i] = n) : a1x l n = l := by
 have : wk l n = i := e4q (by omega) h (fun _ => by omega)
 simp [a1x, this, hi, e]
theorem d8c {l : List Int} {n : Int} {i : Nat} (hi : i < l.length) (h : ltTo l n i) (h1 : ¬ l[i] < n) (h2 : ¬ l[i] = n) : a1x l n = l.take i ++ n :: l.drop i := by
 have : wk l n = i := e4q (by omega) h (fun _ => h1)
 simp [a1x, this, hi, h2]
def inc (l : List Int) : Prop := l.Pairwise (· < ·)
theorem b9y {l : List Int} {n x : Int} : x ∈ a1x l n ↔ x ∈ l \/ x = n := by
 unfold a1x
 split
 . rename_i h
   constructor
   . exact .inl
   . rintro (h' | rfl)
     . exact h'
     . exact List.mem_of_getElem? h
 . have e : x ∈ l ↔ x ∈ l.take (wk l n) \/ x ∈ l.drop (wk l n) := by rw [<- List.mem_append, List.take_append_drop]
   rw [List.mem_append, List.mem_cons, e]
   simp only [or_assoc, or_comm (a := x = n)]
theorem c7n {l : List Int} {n : Int} (h : inc l) : inc (a1x l n) := by
 unfold a1x
 split
 . exact h
 . rename_i hne
   have hd := h
   rw [<- List.take_append_drop (wk l n) l] at hd
   unfold inc at hd ⊢
   rw [List.pairwise_append] at hd ⊢
   obtain ⟨h1, h2, h3⟩ := hd
   have hge : ∀ y ∈ l.drop (wk l n), n < y := by
    intro y hy
    by_cases hw : wk l n < l.length
    . have h4 := f0g hw
      have h5 : l[wk l n] ≠ n := fun e => hne (by rw [gE_ hw, e])
      have h6 : l.drop (wk l n) = l[wk l n] :: l.drop (wk l n + 1) := List.drop_eq_getElem_cons hw
      rw [h6] at hy h2
      rcases List.mem_cons.1 hy with rfl | hy
      . omega
      . have := (List.pairwise_cons.1 h2).1 y hy
        omega
    . rw [List.drop_of_length_le (by omega)] at hy
      cases hy
   have hlt : ∀ y ∈ l.take (wk l n), y < n := by
    intro y hy
    obtain ⟨j, hj, rfl⟩ := List.getElem_of_mem hy
    rw [List.length_take] at hj
    rw [List.getElem_take]
    exact f0e j (by omega) (by omega)
   refine ⟨h1, List.pairwise_cons.2 ⟨hge, h2⟩, ?_⟩
   intro x hx y hy
   rcases List.mem_cons.1 hy with rfl | hy
   . exact hlt x hx
   . exact h3 x hx y hy
theorem c0j {a b : List Int} (ha : inc a) (hb : inc b) (h : ∀ x, x ∈ a ↔ x ∈ b) : a = b := by
 induction a generalizing b with
 | nil =>
   cases b with
   | nil => rfl
   | cons y b => exact absurd ((h y).2 (by simp)) (by simp)
 | cons x a ih =>
   cases b with
   | nil => exact absurd ((h x).1 (by simp)) (by simp)
   | cons y b =>
     have hxa := List.pairwise_cons.1 ha
     have hyb := List.pairwise_cons.1 hb
     have exy : x = y := by
      have h1 := (h x).1 (by simp)
      have h2 := (h y).2 (by simp)
      rcases List.mem_cons.1 h1 with e | h1
      . exact e
      . rcases List.mem_cons.1 h2 with e | h2
        . exact e.symm
        . have := hyb.1 x h1
          have := hxa.1 y h2
          omega
     subst exy
     congr 1
     refine ih hxa.2 hyb.2 fun z => ?_
     constructor
     . intro hz
       rcases List.mem_cons.1 ((h z).1 (by simp [hz])) with rfl | h'
       . exact absurd (hxa.1 z hz) (by omega)
       . exact h'
     . intro hz
       rcases List.mem_cons.1 ((h z).2 (by simp [hz])) with rfl | h'
       . exact absurd (hyb.1 z hz) (by omega)
       . exact h'
def a7f (a b : List Int) : List Int := b.foldl a1x a
theorem a6c {a b : List Int} {x : Int} : x ∈ a7f a b ↔ x ∈ a \/ x ∈ b := by
 induction b generalizing a with
 | nil => simp [a7f]
 | cons y b ih =>
   show x ∈ a7f (a1x a y) b ↔ _
   rw [ih, b9y, List.mem_cons, or_assoc]
theorem c2q {a b : List Int} (h : inc a) : inc (a7f a b) := by
 induction b generalizing a with
 | nil => exact h
 | cons y b ih => exact ih (c7n h)
theorem c5q {a b : List Int} (ha : inc a) (h : ∀ x ∈ b, x ∈ a) : a7f a b = a :=
 c0j (c2q ha) ha fun x => by rw [a6c]; exact ⟨fun h' => h'.elim id (h x), .inl⟩
theorem b4i (l : List Int) (n : Int) : (a1x l n).length <= l.length + 1 := by
 unfold a1x
 split
 . omega
 . simp only [List.length_append, List.length_take, List.length_cons, List.length_drop]; have := f0f l n; omega
theorem e7q {l : List Int} {n : Nat} (h : inc l) (hb : ∀ x ∈ l, 0 <= x /\ x < (n : Int)) : l.length <= n := by
 have key : ∀ (l : List Int) (lo : Int), inc l -> (∀ x ∈ l, lo <= x /\ x < (n : Int)) -> lo <= n -> lo + l.length <= (n : Int) := by
  intro l
  induction l with
  | nil => intro lo _ _ h; simpa using h
  | cons a r ih =>
    intro lo hi hb _
    have h1 := List.pairwise_cons.1 hi
    have ha := hb a (by simp)
    have := ih (a + 1) h1.2 (fun x hx => ⟨by have := h1.1 x hx; omega, (hb x (by simp [hx])).2⟩) (by omega)
    simp only [List.length_cons]; omega
 have := key l 0 h hb (by omega)
 omega
structure Pts where
 sites : List (Int × Int)
 regs : List (List (List Int))
 cells : List (List Int)
def rg (x : Pts) (f : Nat) (a : Int) : List Int := (x.regs.getD f []).getD a.toNat []
def cl (x : Pts) (o : Int) : List Int := x.cells.getD o.toNat []
def setR (x : Pts) (f : Nat) (a : Int) (s : List Int) : Pts := { x with regs := x.regs.set f ((x.regs.getD f []).set a.toNat s) }
def setC (x : Pts) (o : Int) (s : List Int) : Pts := { x with cells := x.cells.set o.toNat s }
def addR (x : Pts) (f : Nat) (a : Int) (s : List Int) : Pts := setR x f a (a7f (rg x f a) s)
def addC (x : Pts) (o : Int) (s : List Int) : Pts := setC x o (a7f (cl x o) s)
def sitC (f : Nat) (code : List Ins) (j : Nat) : List (Int × Int) := ((List.range j).filter (fun (k : Nat) => alO (opAt code (k : Int)))).map (fun (k : Nat) => ((f : Int), (k : Int)))
def sitP (fs : List FnD) : Nat -> List (Int × Int)
 | 0 => [(0, 0)]
 | i + 1 => sitP fs i ++ (match fs[i]? with | some y => sitC i y.code y.code.length | none => [])
def sit2 (fs : List FnD) (i j : Nat) : List (Int × Int) := sitP fs i ++ (match fs[i]? with | some y => sitC i y.code j | none => [])
def a0l (p : Pg) : List (Int × Int) := sitP p.funcs p.funcs.length
theorem f1b (f : Nat) (code : List Ins) : sitC f code 0 = [] := rfl
theorem d8z {f : Nat} {code : List Ins} {j : Nat} (h : j < code.length) (ha : alO code[j].op = true) : sitC f code (j + 1) = sitC f code j ++ [((f : Int), (j : Int))] := by
 unfold sitC
 rw [List.range_succ, fA_, List.map_append]
 simp [d3l h, ha]
theorem e5w {f : Nat} {code : List Ins} {j : Nat} (h : j < code.length) (ha : alO code[j].op = false) : sitC f code (j + 1) = sitC f code j := by
 unfold sitC
 rw [List.range_succ, fA_, List.map_append]
 simp [d3l h, ha]
theorem c6h (f : Nat) (code : List Ins) (j : Nat) : (sitC f code j).length <= j := by
 unfold sitC
 rw [List.length_map]
 exact Nat.le_trans (List.length_filter_le _ _) (by simp)
theorem f1a (fs : List FnD) : sitP fs 0 = [(0, 0)] := rfl
theorem c6f {fs : List FnD} {i : Nat} (h : i < fs.length) : sitP fs (i + 1) = sitP fs i ++ sitC i fs[i].code fs[i].code.length := by
 rw [sitP, gE_ h]
theorem b9j {fs : List FnD} {B : Nat} (hb : ∀ x ∈ fs, x.code.length <= B) : ∀ i, i <= fs.length -> (sitP fs i).length <= 1 + i * B
 | 0, _ => by simp [sitP]
 | i + 1, h => by
   have ih := b9j hb i (by omega)
   rw [c6f (by omega), List.length_append]
   have h1 := c6h i fs[i].code fs[i].code.length
   have h2 := hb _ (gm_ (show i < fs.length by omega))
   have e : (i + 1) * B = i * B + B := by rw [Nat.add_mul, Nat.one_mul]
   omega
theorem d2h (fs : List FnD) (i : Nat) : sit2 fs i 0 = sitP fs i := by
 unfold sit2; cases fs[i]? <;> simp [f1b]
theorem d9b {fs : List FnD} {i j : Nat} (hi : i < fs.length) (h : j < fs[i].code.length) (ha : alO fs[i].code[j].op = true) : sit2 fs i (j + 1) = sit2 fs i j ++ [((i : Int), (j : Int))] := by
 simp only [sit2, gE_ hi, d8z h ha, List.append_assoc]
theorem e5x {fs : List FnD} {i j : Nat} (hi : i < fs.length) (h : j < fs[i].code.length) (ha : alO fs[i].code[j].op = false) : sit2 fs i (j + 1) = sit2 fs i j := by
 simp only [sit2, gE_ hi, e5w h ha]
theorem d9e {fs : List FnD} {i : Nat} (hi : i < fs.length) : sitP fs (i + 1) = sit2 fs i fs[i].code.length := by
 rw [c6f hi]; simp only [sit2, gE_ hi]
theorem d9d {fs : List FnD} {B : Nat} (hb : ∀ x ∈ fs, x.code.length <= B) {i j : Nat} (hi : i < fs.length) (hj : j <= fs[i].code.length) : (sit2 fs i j).length <= 1 + i * B + j := by
 have := b9j hb i (by omega)
 have := c6h i fs[i].code j
 simp only [sit2, gE_ hi, List.length_append]
 omega
theorem d9c (fs : List FnD) (i j : Nat) : 0 < (sit2 fs i j).length := by
 have h : ∀ i, 0 < (sitP fs i).length := by
  intro i
  induction i with
  | zero => simp [sitP]
  | succ i ih => simp only [sitP, List.length_append]; omega
 have := h i
 simp only [sit2, List.length_append]; omega
theorem c6g (fs : List FnD) (i : Nat) : 0 < (sitP fs i).length := by rw [<- d2h]; exact d9c fs i 0
def objR (l : List (Int × Int)) (s : Int × Int) : Nat := match (l.drop 1).findIdx? (fun y => decide (y = s)) with
 | some k => k + 1
 | none => 0
theorem e6s {l : List (Int × Int)} {s : Int × Int} (hl : 0 < l.length) : objR l s < l.length := by
 unfold objR
 split
 . rename_i k hk
   have := List.findIdx?_eq_some_iff_getElem.1 hk
   obtain ⟨h, _⟩ := this
   rw [List.length_drop] at h; omega
 . exact hl
open Classical in
noncomputable def wrR (p : Pg) (x : Pts) (o : Int) : Bool := decide (∃ i, ∃ hi : i < p.funcs.length, ∃ n ∈ p.funcs[i].code, ((n.op = 34 \/ n.op = 36) /\ o ∈ rg x i n.a) \/ ((n.op = 37 \/ n.op = 38) /\ o ∈ rg x i n.b))
def ins0 : Ins := ⟨0, 0, 0, 0, 0⟩
def b7o (p : Pg) (s : Int × Int) : Ins := match p.funcs[s.1.toNat]? with
 | some f => f.code.getD s.2.toNat ins0
 | none => ins0
def oneP (fs : List FnD) (i : Nat) : List Int := ((List.range i).filter (fun (k : Nat) => decide (a5v fs (k : Int) = 1))).map (fun (k : Nat) => (k : Int))
noncomputable def a5w (p : Pg) (x : Pts) (o : Int) : List Int :=
 let n := if 0 < o then b7o p (x.sites.getD o.toNat (0, 0)) else ins0
 if n.op = 23 then [] else if n.op = 24 /\ wrR p x o = false then [n.b] else oneP p.funcs p.funcs.length
def b7m (x : Pts) (l : List Int) : List Int := l.foldl (fun out o => a7f out (cl x o)) []
def b3q (x : Pts) (l s : List Int) : Pts := l.foldl (fun y o => addC y o s) x
def fnAt (p : Pg) (v : Int) : FnD := p.funcs.getD v.toNat ⟨⟨⟨[]⟩⟩, 0, 0, []⟩
def e6o (y : Pts) (f : Nat) (n : Ins) (k : Nat) : Pts := (List.range k).foldl (fun y (i : Nat) => addR y n.b.toNat i (rg y f (n.c + i))) y
def e6d (y : Pts) (f : Nat) (n : Ins) (code : List Ins) : Pts := code.foldl (fun y m => if m.op = 30 /\ 0 <= m.a then addR y f n.a (rg y n.b.toNat m.a) else y) y
def e8p (y : Pts) (f : Nat) (n : Ins) (o : Int) (k : Nat) : Pts := (List.range k).foldl (fun y (i : Nat) => b3q y [o] (rg y f (n.a + (i + 1)))) y
noncomputable def e8s (p : Pg) (y : Pts) (l : List Int) : Pts := l.foldl (fun y o => (a5w p y o).foldl (fun y k => addR y k.toNat 0 [o]) y) y
noncomputable def d2a (p : Pg) (f pc : Nat) (n : Ins) (x : Pts) : Pts :=
 if n.op = 18 then addR x f n.a [0]
 else if alO n.op = true then
  let o : Int := objR (a0l p) ((f : Int), (pc : Int))
  addR (if n.op = 24 then e8p x f n o n.c.toNat else x) f n.a [o]
 else if n.op = 3 \/ n.op = 19 \/ n.op = 20 then addR x f n.a (rg x f n.b)
 else if n.op = 25 then addR x f n.a (b7m x (rg x f 0))
 else if n.op = 33 \/ n.op = 35 then addR x f n.a (b7m x (rg x f n.b))
 else if n.op = 34 \/ n.op = 36 \/ n.op = 47 then b3q x (rg x f n.a) (rg x f n.b)
 else if n.op = 38 then b3q x (rg x f n.b) (rg x f (n.c + 1))
 else if n.op = 48 then if 0 <= n.a then addR x f n.a (b7m x (rg x f n.b)) else x
 else if n.op = 51 then if n.b = 1 then b3q x (rg x f n.a) (rg x f n.c) else if 0 <= n.c then addR x f n.c (b7m x (rg x f n.a)) else x
 else if n.op = 26 \/ n.op = 28 \/ n.op = 31 then
  let y := e6o x f n (fnAt p n.b).params.toNat
  if n.op = 26 /\ 0 <= n.a then e6d y f n (fnAt p n.b).code else y
 else if n.op = 27 \/ n.op = 29 \/ n.op = 32 then e8s p x (rg x f n.a)
 else x
noncomputable def c4x (p : Pg) (f : Nat) (code : List Ins) (j : Nat) (x : Pts) : Pts := match j with
 | 0 => x
 | j + 1 => match code[j]? with
   | some n => d2a p f j n (c4x p f code j x)
   | none => c4x p f code j x
noncomputable def c3w (p : Pg) (x : Pts) : Nat -> Pts
 | 0 => x
 | i + 1 => match p.funcs[i]? with
   | some f => c4x p i f.code f.code.length (c3w p x i)
   | none => c3w p x i
noncomputable def b5v (p : Pg) (x : Pts) : Pts := c3w p x p.funcs.length
def subR (a b : List Int) : Prop := ∀ o ∈ b, o ∈ a
noncomputable def a3h (p : Pg) (f pc : Nat) (n : Ins) (x : Pts) : Prop :=
 if n.op = 18 then subR (rg x f n.a) [0]
 else if alO n.op = true then
  let o : Int := objR (a0l p) ((f : Int), (pc : Int))
  subR (rg x f n.a) [o] /\ (n.op = 24 -> ∀ i : Nat, i < n.c.toNat -> subR (cl x o) (rg x f (n.a + (i + 1))))
 else if n.op = 3 \/ n.op = 19 \/ n.op = 20 then subR (rg x f n.a) (rg x f n.b)
 else if n.op = 25 then ∀ o ∈ rg x f 0, subR (rg x f n.a) (cl x o)
 else if n.op = 33 \/ n.op = 35 then ∀ o ∈ rg x f n.b, subR (rg x f n.a) (cl x o)
 else if n.op = 34 \/ n.op = 36 \/ n.op = 47 then ∀ o ∈ rg x f n.a, subR (cl x o) (rg x f n.b)
 else if n.op = 38 then ∀ o ∈ rg x f n.b, subR (cl x o) (rg x f (n.c + 1))
 else if n.op = 48 then 0 <= n.a -> ∀ o ∈ rg x f n.b, subR (rg x f n.a) (cl x o)
 else if n.op = 51 then if n.b = 1 then ∀ o ∈ rg x f n.a, subR (cl x o) (rg x f n.c) else (0 <= n.c -> ∀ o ∈ rg x f n.a, subR (rg x f n.c) (cl x o))
 else if n.op = 26 \/ n.op = 28 \/ n.op = 31 then
  (∀ i : Nat, i < (fnAt p n.b).params.toNat -> subR (rg x n.b.toNat i) (rg x f (n.c + i))) /\
  (n.op = 26 /\ 0 <= n.a -> ∀ m ∈ (fnAt p n.b).code, m.op = 30 /\ 0 <= m.a -> subR (rg x f n.a) (rg x n.b.toNat m.a))
 else if n.op = 27 \/ n.op = 29 \/ n.op = 32 then ∀ o ∈ rg x f n.a, ∀ k ∈ a5w p x o, subR (rg x k.toNat 0) [o]
 else True
def okS (n : Nat) (l : List Int) : Prop := inc l /\ ∀ x ∈ l, 0 <= x /\ x < (n : Int)
structure Form (p : Pg) (x : Pts) : Prop where
 sites : x.sites = a0l p
 cn : x.cells.length = (a0l p).length
 rn : x.regs.length = p.funcs.length
 fn : ∀ f (h : f < x.regs.length) (h' : f < p.funcs.length), (x.regs[f].length : Int) = p.funcs[f].regs
 rs : ∀ f (h : f < x.regs.length), ∀ s ∈ x.regs[f], okS (a0l p).length s
 cs : ∀ s ∈ x.cells, okS (a0l p).length s
structure le (x y : Pts) : Prop where
 sites : y.sites = x.sites
 cn : y.cells.length = x.cells.length
 rn : y.regs.length = x.regs.length
 fn : ∀ f : Nat, (y.regs.getD f []).length = (x.regs.getD f []).length
 rs : ∀ f a, ∀ o ∈ rg x f a, o ∈ rg y f a
 cs : ∀ c, ∀ o ∈ cl x c, o ∈ cl y c
theorem le_refl (x : Pts) : le x x := ⟨rfl, rfl, rfl, fun _ => rfl, fun _ _ _ h => h, fun _ _ h => h⟩
theorem le.trans {x y z : Pts} (h : le x y) (h' : le y z) : le x z :=
 ⟨h'.sites.trans h.sites, h'.cn.trans h.cn, h'.rn.trans h.rn, fun f => (h'.fn f).trans (h.fn f), fun f a o ho => h'.rs f a o (h.rs f a o ho), fun c o ho => h'.cs c o (h.cs c o ho)⟩
theorem Pts.ext' {x y : Pts} (h1 : x.sites = y.sites) (h2 : x.regs = y.regs) (h3 : x.cells = y.cells) : x = y := by
 cases x; cases y; simp_all
theorem Form.reg {p : Pg} {x : Pts} (h : Form p x) (f : Nat) (a : Int) : okS (a0l p).length (rg x f a) := by
 unfold rg
 by_cases hf : f < x.regs.length
 . rw [gD_, gD_, gE_ hf, gS_]
   by_cases ha : a.toNat < x.regs[f].length
   . rw [gE_ ha, gS_]
     exact h.rs f hf _ (gm_ ha)
   . rw [gn_ (by omega)]
     exact ⟨List.Pairwise.nil, by simp⟩
 . rw [gD_, gD_, gn_ (l := x.regs) (by omega)]
   exact ⟨List.Pairwise.nil, by simp⟩
theorem Form.cell {p : Pg} {x : Pts} (h : Form p x) (o : Int) : okS (a0l p).length (cl x o) := by
 unfold cl
 by_cases ha : o.toNat < x.cells.length
 . rw [gD_, gE_ ha, gS_]
   exact h.cs _ (gm_ ha)
 . rw [gD_, gn_ (by omega)]
   exact ⟨List.Pairwise.nil, by simp⟩
theorem le.anti {p : Pg} {x y : Pts} (hx : Form p x) (hy : Form p y) (h : le x y) (h' : le y x) : x = y := by
 refine Pts.ext' h.sites.symm ?_ ?_
 . refine List.ext_getElem h.rn.symm fun f h1 h2 => ?_
   have hl := h.fn f
   rw [gD_, gD_, gE_ h1, gE_ h2, gS_, gS_] at hl
   refine List.ext_getElem hl.symm fun r h3 h4 => ?_
   have e1 : rg x f (r : Int) = x.regs[f][r] := by simp [rg, gD_, h1, h3]
   have e2 : rg y f (r : Int) = y.regs[f][r] := by simp [rg, gD_, h2, h4]
   rw [<- e1, <- e2]
   exact c0j (hx.reg f r).1 (hy.reg f r).1 fun o => ⟨h.rs f r o, h'.rs f r o⟩
 . refine List.ext_getElem h.cn.symm fun c h1 h2 => ?_
   have e1 : cl x (c : Int) = x.cells[c] := by simp [cl, gD_, h1]
   have e2 : cl y (c : Int) = y.cells[c] := by simp [cl, gD_, h2]
   rw [<- e1, <- e2]
   exact c0j (hx.cell c).1 (hy.cell c).1 fun o => ⟨h.cs c o, h'.cs c o⟩
def Grow (p : Pg) (g : Pts -> Pts) : Prop := ∀ x, Form p x -> Form p (g x) /\ le x (g x)
theorem Grow.id (p : Pg) : Grow p (fun x => x) := fun x h => ⟨h, le_refl x⟩
theorem Grow.comp {p : Pg} {g h : Pts -> Pts} (hg : Grow p g) (hh : Grow p h) : Grow p (fun x => h (g x)) := fun x hx =>
 ⟨(hh _ (hg x hx).1).1, (hg x hx).2.trans (hh _ (hg x hx).1).2⟩
theorem Grow.fix {p : Pg} {g h : Pts -> Pts} (hg : Grow p g) (hh : Grow p h) {x : Pts} (hx : Form p x) : h (g x) = x ↔ g x = x /\ h x = x := by
 constructor
 . intro e
   obtain ⟨f1, l1⟩ := hg x hx
   have l2 := (hh _ f1).2
   rw [e] at l2
   have e1 := le.anti f1 hx l2 l1
   exact ⟨e1, by rw [e1] at e; exact e⟩
 . rintro ⟨e1, e2⟩; rw [e1, e2]
theorem Grow.fold {α : Type} {p : Pg} {g : Pts -> α -> Pts} {l : List α} (hg : ∀ a ∈ l, Grow p (fun y => g y a)) : Grow p (fun x => l.foldl g x) := by
 induction l with
 | nil => exact Grow.id p
 | cons a l ih => exact (hg a (by simp)).comp (ih fun b hb => hg b (by simp [hb]))
theorem Grow.foldfix {α : Type} {p : Pg} {g : Pts -> α -> Pts} {l : List α} (hg : ∀ a ∈ l, Grow p (fun y => g y a)) {x : Pts} (hx : Form p x) : l.foldl g x = x ↔ ∀ a ∈ l, g x a = x := by
 induction l with
 | nil => simp
 | cons a l ih =>
   have h1 := Grow.fix (hg a (by simp)) (Grow.fold (l := l) (g := g) fun b hb => hg b (by simp [hb])) hx
   rw [List.foldl_cons]
   refine h1.trans ?_
   rw [ih fun b hb => hg b (by simp [hb])]
   simp
theorem a5j {α : Type} (l : List α) (i j : Nat) (a d : α) : (l.set i a).getD j d = if i = j /\ i < l.length then a else l.getD j d := by
 simp only [gD_, List.getElem?_set]
 by_cases e : i = j
 . subst e
   by_cases h : i < l.length
   . simp [h]
   . simp [h]
 . simp [e]
theorem c2a {n : Nat} {a b : List Int} (ha : okS n a) (hb : ∀ x ∈ b, 0 <= x /\ x < (n : Int)) : okS n (a7f a b) :=
 ⟨c2q ha.1, fun x hx => by rcases a6c.1 hx with h | h; exact ha.2 x h; exact hb x h⟩
theorem c3u (x : Pts) (f : Nat) (a : Int) (s : List Int) (g : Nat) (b : Int) : rg (addR x f a s) g b = if (f = g /\ f < x.regs.length) /\ (a.toNat = b.toNat /\ a.toNat < (x.regs.getD f []).length) then a7f (rg x f a) s else rg x g b := by
 simp only [rg, addR, setR, a5j]
 by_cases h : f = g /\ f < x.regs.length
 . obtain ⟨rfl, h⟩ := h
   simp only [h, and_self, if_true, true_and, a5j]
 . simp [h]
theorem d5g {p : Pg} (f : Nat) (a : Int) {s : List Int} (hs : ∀ x ∈ s, 0 <= x /\ x < ((a0l p).length : Int)) : ∀ x, Form p x -> Form p (addR x f a s) /\ le x (addR x f a s) := by
 intro x hx
 refine ⟨⟨hx.sites, hx.cn, by simp [addR, setR, hx.rn], fun g h h' => ?_, fun g h t ht => ?_, hx.cs⟩, ⟨rfl, rfl, by simp [addR, setR], fun g => ?_, fun g b o ho => ?_, fun _ _ h => h⟩⟩
 . simp only [addR, setR, List.length_set] at h ⊢
   rw [List.getElem_set]
   split
   . rename_i e; subst e
     rw [List.length_set, gD_, gE_ h, gS_]
     exact hx.fn f h h'
   . exact hx.fn g h h'
 . simp only [addR, setR, List.length_set] at h ht
   rw [List.getElem_set] at ht
   split at ht
   . rename_i e; subst e
     rcases List.mem_or_eq_of_mem_set ht with ht | rfl
     . rw [gD_, gE_ h, gS_] at ht
       exact hx.rs f h t ht
     . exact c2a (hx.reg f a) hs
   . exact hx.rs g h t ht
 . simp only [addR, setR, a5j]
   split
   . rename_i e; obtain ⟨rfl, e⟩ := e
     rw [List.length_set]
   . rfl
 . rw [c3u]
   split
   . rename_i e
     obtain ⟨⟨rfl, _⟩, ⟨e, _⟩⟩ := e
     rw [a6c]; left
     have : rg x f a = rg x f b := by simp only [rg, e]
     rw [this]; exact ho
   . exact ho
theorem d5h {p : Pg} (c : Int) {s : List Int} (hs : ∀ x ∈ s, 0 <= x /\ x < ((a0l p).length : Int)) : ∀ x, Form p x -> Form p (addC x c s) /\ le x (addC x c s) := by
 intro x hx
 refine ⟨⟨hx.sites, by simp [addC, setC, hx.cn], hx.rn, hx.fn, hx.rs, fun t ht => ?_⟩, ⟨rfl, by simp [addC, setC], rfl, fun _ => rfl, fun _ _ _ h => h, fun d o ho => ?_⟩⟩
 . rcases List.mem_or_eq_of_mem_set ht with ht | rfl
   . exact hx.cs t ht
   . exact c2a (hx.cell c) hs
 . simp only [addC, setC, cl, a5j]
   split
   . rename_i e
     rw [a6c]; left
     rw [e.1]; exact ho
   . exact ho
theorem e1f {p : Pg} {x : Pts} (hx : Form p x) {f : Nat} {a : Int} {s : List Int} (hf : f < x.regs.length) (ha : a.toNat < (x.regs.getD f []).length) : addR x f a s = x ↔ subR (rg x f a) s := by
 constructor
 . intro e o ho
   have h1 := c3u x f a s f a
   rw [e, if_pos ⟨⟨rfl, hf⟩, rfl, ha⟩] at h1
   rw [h1, a6c]; exact .inr ho
 . intro h
   have : a7f (rg x f a) s = rg x f a := c5q (hx.reg f a).1 h
   unfold addR
   rw [this]
   refine Pts.ext' rfl ?_ rfl
   simp only [setR]
   have e1 : (x.regs.getD f []).set a.toNat (rg x f a) = x.regs.getD f [] := by
    unfold rg
    rw [gD_ (l := x.regs.getD f []), gE_ ha, gS_, List.set_getElem_self]
   rw [e1, gD_, gE_ hf, gS_, List.set_getElem_self]
theorem e1g {p : Pg} {x : Pts} (hx : Form p x) {c : Int} {s : List Int} (hc : c.toNat < x.cells.length) : addC x c s = x ↔ subR (cl x c) s := by
 constructor
 . intro e o ho
   have h1 : cl (addC x c s) c = a7f (cl x c) s := by simp [cl, addC, setC, a5j, hc]
   rw [e] at h1
   rw [h1, a6c]; exact .inr ho
 . intro h
   have : a7f (cl x c) s = cl x c := c5q (hx.cell c).1 h
   unfold addC
   rw [this]
   refine Pts.ext' rfl rfl ?_
   simp only [setC, cl]
   rw [gD_, gE_ hc, gS_, List.set_getElem_self]
structure InsOk (p : Pg) (f : FnD) (n : Ins) : Prop where
 op : 1 <= n.op /\ n.op <= 52
 a : opR p f n (rR n.op).1 n.a = true
 b : opR p f n (rR n.op).2.1 n.b = true
 c : opR p f n (rR n.op).2.2 n.c = true
 x24 : n.op = 24 -> W (n.a + n.c) < f.regs /\ n.c < 64
 x25 : n.op = 25 -> n.b < 63 /\ 0 < f.regs
 x38 : n.op = 38 -> W (n.c + 1) < f.regs
theorem e0m {p : Pg} {f : FnD} {n : Ins} (h : a8h p f n = true) : InsOk p f n := by
 simp only [a8h, bA_, dE_] at h
 obtain ⟨⟨⟨⟨⟨h1, _⟩, h2⟩, h3⟩, h4⟩, h5⟩ := h
 refine ⟨h1, h2, h3, h4, fun e => ?_, fun e => ?_, fun e => ?_⟩
 . simpa [e] using h5
 . simpa [e] using h5
 . simpa [e] using h5
theorem c2i {p : Pg} {f : FnD} : ∀ {l : List Ins} {e : Int}, b1o p f l e = true -> ∀ n ∈ l, a8h p f n = true
 | [], _, _, n, h => by cases h
 | x :: r, e, h, n, hn => by
   simp only [b1o] at h
   split at h
   . simp only [bA_] at h
     rcases List.mem_cons.1 hn with rfl | hn
     . exact h.1
     . exact c2i h.2 n hn
   . cases h
structure VOk (p : Pg) : Prop where
 nf : p.funcs.length <= 64
 head : ∀ f ∈ p.funcs, a9f f = true
 ins : ∀ f ∈ p.funcs, ∀ n ∈ f.code, InsOk p f n
theorem vOk {p : Pg} (h : a2c p = true) : VOk p := by
 simp only [a2c, bA_, a6e, dE_] at h
 obtain ⟨h1, _, h2, _⟩ := h
 have h3 := fun f hf => List.all_eq_true.1 h2 f hf
 refine ⟨by simp_all, fun f hf => ?_, fun f hf n hn => ?_⟩
 . have := h3 f hf
   simp only [fnR, bA_] at this
   exact this.1.2
 . have := h3 f hf
   simp only [fnR, bA_] at this
   exact e0m (c2i this.2 n hn)
structure Regs (f : FnD) : Prop where
 p0 : 0 <= f.params
 p1 : f.params <= f.regs
 r64 : f.regs <= 64
 c1000 : f.code.length <= 1000
theorem VOk.regs {p : Pg} (h : VOk p) {f : FnD} (hf : f ∈ p.funcs) : Regs f := by
 obtain ⟨⟨h1, h2⟩, h3, h4⟩ := b6j (h.head f hf)
 exact ⟨h1, h2, h3, h4⟩
def isR (f : FnD) (v : Int) : Prop := 0 <= v /\ v < f.regs
theorem a3o {p : Pg} {f : FnD} {n : Ins} {v : Int} {r : Int} (h : opR p f n r v = true) (hr : r = 100 \/ r = 114) : isR f v := by
 simpa [opR, hr, isR] using h
theorem b1m {p : Pg} {f : FnD} {n : Ins} {v : Int} {r : Int} (h : opR p f n r v = true) (hr : r = 68 \/ r = 82) : -1 <= v /\ v < f.regs := by
 have h1 : ¬ (r = 100 \/ r = 114) := by omega
 simpa [opR, h1, hr] using h
structure Callee (p : Pg) (f : FnD) (n : Ins) : Prop where
 b0 : 0 <= n.b
 b1 : n.b < (p.funcs.length : Int)
 c0 : 0 <= n.c
 c1 : n.c + (fnAt p n.b).params <= f.regs
theorem e1e {p : Pg} {v : Int} (h0 : 0 <= v) (h : v < (p.funcs.length : Int)) : fnAt p v ∈ p.funcs := by
 have hv : v.toNat < p.funcs.length := by omega
 unfold fnAt
 rw [gD_, gE_ hv, gS_]
 exact gm_ hv
theorem e1d {p : Pg} {v : Int} (h0 : 0 <= v) (h : v < (p.funcs.length : Int)) : a5v p.funcs v = (fnAt p v).params := by
 have hv : v.toNat < p.funcs.length := by omega
 unfold fnAt
 rw [a8d _ _ hv, gD_, gE_ hv, gS_]
theorem b0c {p : Pg} {f : FnD} {n : Ins} (hp : VOk p) (hf : f ∈ p.funcs) (h : opR p f n 102 n.b = true) : Callee p f n := by
 simp only [opR, bA_, dE_] at h
 simp at h
 obtain ⟨⟨⟨h1, h2⟩, h3⟩, h4⟩ := h
 refine ⟨h1, h2, h3, ?_⟩
 rw [e1d h1 h2] at h4
 have hm := e1e h1 h2
 have r1 := hp.regs hm
 have r2 := hp.regs hf
 have := r1.p0; have := r1.p1; have := r1.r64; have := r2.p0; have := r2.p1; have := r2.r64
 rw [W_id (by omega) (by omega)] at h4
 omega
theorem f1f {p : Pg} {x : Pts} (hx : Form p x) {i : Nat} (hi : i < p.funcs.length) {a : Int} (ha : isR p.funcs[i] a) : i < x.regs.length /\ a.toNat < (x.regs.getD i []).length := by
 have h1 : i < x.regs.length := by rw [hx.rn]; exact hi
 refine ⟨h1, ?_⟩
 have := hx.fn i h1 hi
 rw [gD_, gE_ h1, gS_]
 unfold isR at ha; omega
def GF (p : Pg) (g : Pts -> Pts) (C : Pts -> Prop) : Prop := (∀ x, Form p x -> Form p (g x) /\ le x (g x)) /\ ∀ x, Form p x -> (g x = x ↔ C x)
theorem GF.id (p : Pg) : GF p (fun x => x) (fun _ => True) := ⟨fun x h => ⟨h, le_refl x⟩, fun _ _ => by simp⟩
theorem b3e {p : Pg} {i : Nat} (hi : i < p.funcs.length) {a : Int} (ha : isR p.funcs[i] a) {S : Pts -> List Int} (hS : ∀ x, Form p x -> ∀ o ∈ S x, 0 <= o /\ o < ((a0l p).length : Int)) : GF p (fun x => addR x i a (S x)) (fun x => subR (rg x i a) (S x)) :=
 ⟨fun x hx => d5g i a (hS x hx) x hx, fun x hx => e1f hx (f1f hx hi ha).1 (f1f hx hi ha).2⟩
theorem GF.cell {p : Pg} {c : Int} (hc : 0 <= c /\ c < ((a0l p).length : Int)) {S : Pts -> List Int} (hS : ∀ x, Form p x -> ∀ o ∈ S x, 0 <= o /\ o < ((a0l p).length : Int)) : GF p (fun x => addC x c (S x)) (fun x => subR (cl x c) (S x)) :=
 ⟨fun x hx => d5h c (hS x hx) x hx, fun x hx => e1g hx (by rw [hx.cn]; omega)⟩
theorem GF.foldl {α : Type} {p : Pg} {g : Pts -> α -> Pts} {C : Pts -> α -> Prop} {l : List α} (h : ∀ a ∈ l, GF p (fun y => g y a) (fun y => C y a)) : GF p (fun x => l.foldl g x) (fun x => ∀ a ∈ l, C x a) := by
 have hg : ∀ a ∈ l, Grow p (fun y => g y a) := fun a ha => (h a ha).1
 refine ⟨Grow.fold hg, fun x hx => ?_⟩
 have := Grow.foldfix hg hx
 refine this.trans ?_
 exact ⟨fun h' a ha => ((h a ha).2 x hx).1 (h' a ha), fun h' a ha => ((h a ha).2 x hx).2 (h' a ha)⟩
theorem GF.comp {p : Pg} {g h : Pts -> Pts} {C D : Pts -> Prop} (hg : GF p g C) (hh : GF p h D) : GF p (fun x => h (g x)) (fun x => C x /\ D x) :=
 ⟨Grow.comp hg.1 hh.1, fun x hx => (Grow.fix hg.1 hh.1 hx).trans (and_congr (hg.2 x hx) (hh.2 x hx))⟩
theorem GF.congr {p : Pg} {g g' : Pts -> Pts} {C D : Pts -> Prop} (hg : GF p g C) (e : ∀ x, Form p x -> g' x = g x) (h : ∀ x, Form p x -> (C x ↔ D x)) : GF p g' D :=
 ⟨fun x hx => by rw [e x hx]; exact hg.1 x hx, fun x hx => by rw [e x hx]; exact (hg.2 x hx).trans (h x hx)⟩
theorem b4w {x : Pts} {l : List Int} {o : Int} : o ∈ b7m x l ↔ ∃ c ∈ l, o ∈ cl x c := by
 have key : ∀ (l : List Int) (a : List Int), o ∈ l.foldl (fun out c => a7f out (cl x c)) a ↔ o ∈ a \/ ∃ c ∈ l, o ∈ cl x c := by
  intro l
  induction l with
  | nil => simp
  | cons c l ih =>
    intro a
    rw [List.foldl_cons, ih, a6c]
    simp [or_assoc]
 simpa [b7m] using key l []
theorem c6c {x : Pts} {a l : List Int} : subR a (b7m x l) ↔ ∀ c ∈ l, subR a (cl x c) := by
 simp only [subR, b4w]
 exact ⟨fun h c hc o ho => h o ⟨c, hc, ho⟩, fun h o ⟨c, hc, ho⟩ => h c hc o ho⟩
theorem f3k {α : Type} {p : Pg} {g : Pts -> α -> Pts} {C : Pts -> α -> Prop} {l : Pts -> List α} (h : ∀ x, Form p x -> ∀ a ∈ l x, GF p (fun y => g y a) (fun y => C y a)) : GF p (fun x => (l x).foldl g x) (fun x => ∀ a ∈ l x, C x a) :=
 ⟨fun x hx => (GF.foldl (l := l x) (fun a ha => h x hx a ha)).1 x hx, fun x hx => (GF.foldl (l := l x) (fun a ha => h x hx a ha)).2 x hx⟩
theorem b4y {p : Pg} {l S : Pts -> List Int} (hl : ∀ x, Form p x -> ∀ c ∈ l x, 0 <= c /\ c < ((a0l p).length : Int)) (hS : ∀ x, Form p x -> ∀ o ∈ S x, 0 <= o /\ o < ((a0l p).length : Int)) :
 GF p (fun x => b3q x (l x) (S x)) (fun x => ∀ c ∈ l x, subR (cl x c) (S x)) := by
 have key : ∀ x0, Form p x0 -> GF p (fun x => (l x0).foldl (fun y o => addC y o (S x0)) x) (fun x => ∀ c ∈ l x0, subR (cl x c) (S x0)) := fun x0 h0 =>
  GF.foldl fun c hc => GF.cell (hl x0 h0 c hc) (fun _ _ => hS x0 h0)
 exact ⟨fun x hx => (key x hx).1 x hx, fun x hx => (key x hx).2 x hx⟩
theorem Form.regB {p : Pg} {x : Pts} (h : Form p x) (f : Nat) (a : Int) : ∀ o ∈ rg x f a, 0 <= o /\ o < ((a0l p).length : Int) := (h.reg f a).2
theorem Form.cellB {p : Pg} {x : Pts} (h : Form p x) (c : Int) : ∀ o ∈ cl x c, 0 <= o /\ o < ((a0l p).length : Int) := (h.cell c).2
theorem f1j {p : Pg} {x : Pts} (h : Form p x) (l : List Int) : ∀ o ∈ b7m x l, 0 <= o /\ o < ((a0l p).length : Int) := fun o ho => by
 obtain ⟨c, _, hc⟩ := b4w.1 ho
 exact h.cellB c o hc
theorem a9o (p : Pg) : 0 < (a0l p).length := c6g _ _
theorem f7e {p : Pg} (k : Nat) (hk : k < (a0l p).length) : ∀ o ∈ [(k : Int)], 0 <= o /\ o < ((a0l p).length : Int) := fun o ho => by
 rw [List.mem_singleton] at ho; subst ho; omega
theorem c7s {p : Pg} {i : Nat} (hi : i < p.funcs.length) {a : Int} (ha : isR p.funcs[i] a) (k : Nat) (hk : k < (a0l p).length) : GF p (fun x => addR x i a [(k : Int)]) (fun x => subR (rg x i a) [(k : Int)]) := b3e hi ha fun _ _ => f7e k hk
theorem c0o {p : Pg} {i : Nat} (hi : i < p.funcs.length) {a : Int} (ha : isR p.funcs[i] a) (b : Int) : GF p (fun x => addR x i a (b7m x (rg x i b))) (fun x => ∀ o ∈ rg x i b, subR (rg x i a) (cl x o)) :=
 (b3e hi ha fun x hx => f1j hx (rg x i b)).congr (fun _ _ => rfl) fun x _ => c6c
theorem d9y {fs : List FnD} {i : Nat} {k : Int} : k ∈ oneP fs i -> 0 <= k /\ k < (i : Int) /\ a5v fs k = 1 := by
 intro h
 simp only [oneP, List.mem_map, List.mem_filter, List.mem_range, dE_] at h
 obtain ⟨j, ⟨h1, h2⟩, rfl⟩ := h
 exact ⟨by omega, by omega, h2⟩
theorem c4e (p : Pg) (s : Int × Int) : b7o p s = ins0 \/ ∃ f ∈ p.funcs, b7o p s ∈ f.code := by
 unfold b7o
 cases h : p.funcs[s.1.toNat]? with
 | none => exact .inl rfl
 | some f =>
   simp only
   rw [gD_]
   cases h' : f.code[s.2.toNat]? with
   | none => exact .inl rfl
   | some n => exact .inr ⟨f, List.mem_of_getElem? h, List.mem_of_getElem? h'⟩
theorem c4g {p : Pg} (hp : VOk p) {x : Pts} {o k : Int} (h : k ∈ a5w p x o) : 0 <= k /\ k < (p.funcs.length : Int) /\ a5v p.funcs k = 1 := by
 unfold a5w at h
 have hn : ∀ n : Ins, n = (if 0 < o then b7o p (x.sites.getD o.toNat (0, 0)) else ins0) -> n.op = 24 -> 0 <= n.b /\ n.b < (p.funcs.length : Int) /\ a5v p.funcs n.b = 1 := by
  intro n hn h24
  split at hn
  . rcases c4e p (x.sites.getD o.toNat (0, 0)) with e | ⟨f, hf, hm⟩
    . rw [hn, e] at h24; simp [ins0] at h24
    . have hi := (hp.ins f hf _ hm).b
      rw [<- hn, h24] at hi
      have hi : opR p f n 49 n.b = true := hi
      simp [opR] at hi
      exact ⟨hi.1.1, hi.1.2, hi.2⟩
  . rw [hn] at h24; simp [ins0] at h24
 generalize (if 0 < o then b7o p (x.sites.getD o.toNat (0, 0)) else ins0) = n at h hn
 dsimp only at h
 by_cases e : n.op = 23
 . rw [if_pos e] at h; cases h
 . rw [if_neg e] at h
   by_cases e2 : n.op = 24 /\ wrR p x o = false
   . rw [if_pos e2, List.mem_singleton] at h
     subst h
     exact hn n rfl e2.1
   . rw [if_neg e2] at h
     exact d9y h
theorem reg0 {p : Pg} (hp : VOk p) {k : Int} (h0 : 0 <= k) (h1 : k < (p.funcs.length : Int)) (h2 : a5v p.funcs k = 1) : ∃ h : k.toNat < p.funcs.length, isR p.funcs[k.toNat] 0 := by
 have hk : k.toNat < p.funcs.length := by omega
 refine ⟨hk, ?_⟩
 have := hp.regs (gm_ hk)
 rw [a8d _ _ hk] at h2
 have := this.p1
 unfold isR; omega
theorem f3j {p : Pg} (hp : VOk p) (o : Int) (ho : 0 <= o /\ o < ((a0l p).length : Int)) : GF p (fun y => (a5w p y o).foldl (fun y k => addR y k.toNat 0 [o]) y) (fun y => ∀ k ∈ a5w p y o, subR (rg y k.toNat 0) [o]) := by
 refine f3k (C := fun y (k : Int) => subR (rg y k.toNat 0) [o]) fun x hx k hk => ?_
 obtain ⟨h0, h1, h2⟩ := c4g hp hk
 obtain ⟨g1, g2⟩ := reg0 hp h0 h1 h2
 refine b3e g1 g2 fun _ _ o' ho' => ?_
 rw [List.mem_singleton] at ho'; subst ho'; exact ho
theorem e8a {p : Pg} (hp : VOk p) (i : Nat) (a : Int) : GF p (fun x => e8s p x (rg x i a)) (fun x => ∀ o ∈ rg x i a, ∀ k ∈ a5w p x o, subR (rg x k.toNat 0) [o]) :=
 f3k (C := fun x (o : Int) => ∀ k ∈ a5w p x o, subR (rg x k.toNat 0) [o]) fun x hx o ho => f3j hp o (hx.regB i a o ho)
theorem b4t (p : Pg) (s : Int × Int) : objR (a0l p) s < (a0l p).length := e6s (a9o p)
theorem e7x {p : Pg} {i : Nat} {n : Ins} (hb0 : 0 <= n.b) (hb : n.b.toNat < p.funcs.length) (hpar : Regs p.funcs[n.b.toNat]) (k : Nat) (hk : (k : Int) <= p.funcs[n.b.toNat].params) :
 GF p (fun x => e6o x i n k) (fun x => ∀ j : Nat, j < k -> subR (rg x n.b.toNat j) (rg x i (n.c + j))) := by
 refine (GF.foldl (l := List.range k) (g := fun y (j : Nat) => addR y n.b.toNat j (rg y i (n.c + j))) (C := fun x j => subR (rg x n.b.toNat j) (rg x i (n.c + j))) fun j hj => ?_).congr (fun _ _ => rfl) fun x _ => by simp
 rw [List.mem_range] at hj
 exact b3e hb ⟨by omega, by have := hpar.p1; omega⟩ fun x hx => hx.regB i _
theorem e7w {p : Pg} (hp : VOk p) {i : Nat} (hi : i < p.funcs.length) {n : Ins} (ha : isR p.funcs[i] n.a) (hb : n.b.toNat < p.funcs.length) :
 GF p (fun x => e6d x i n (p.funcs[n.b.toNat]).code) (fun x => ∀ m ∈ (p.funcs[n.b.toNat]).code, m.op = 30 /\ 0 <= m.a -> subR (rg x i n.a) (rg x n.b.toNat m.a)) := by
 refine GF.foldl (g := fun y (m : Ins) => if m.op = 30 /\ 0 <= m.a then addR y i n.a (rg y n.b.toNat m.a) else y) (C := fun x m => m.op = 30 /\ 0 <= m.a -> subR (rg x i n.a) (rg x n.b.toNat m.a)) fun m hm => ?_
 by_cases h : m.op = 30 /\ 0 <= m.a
 . simp only [h, and_self, if_true, true_imp_iff]
   exact b3e hi ha fun x hx => hx.regB _ _
 . simp only [h, if_false, false_imp_iff]
   exact GF.id p
theorem e7z {p : Pg} {i : Nat} {n : Ins} {o : Int} (ho : 0 <= o /\ o < ((a0l p).length : Int)) (k : Nat) :
 GF p (fun x => e8p x i n o k) (fun x => ∀ j : Nat, j < k -> subR (cl x o) (rg x i (n.a + (j + 1)))) := by
 refine (GF.foldl (l := List.range k) (g := fun y (j : Nat) => b3q y [o] (rg y i (n.a + (j + 1)))) (C := fun x j => subR (cl x o) (rg x i (n.a + (j + 1)))) fun j _ => ?_).congr (fun _ _ => rfl) fun x _ => by simp
 refine (b4y (l := fun _ => [o]) (S := fun x => rg x i (n.a + (j + 1))) (fun _ _ c hc => ?_) fun x hx => hx.regB i _).congr (fun _ _ => rfl) fun x _ => by simp
 rw [List.mem_singleton] at hc; subst hc; exact ho
theorem e7v {p : Pg} (hp : VOk p) {i : Nat} (hi : i < p.funcs.length) (pc : Nat) {n : Ins} (hn : n ∈ p.funcs[i].code) : GF p (d2a p i pc n) (a3h p i pc n) := by
 have hI := hp.ins _ (gm_ hi) n hn
 have hR := hp.regs (gm_ hi)
 obtain ⟨hop, ha, hb, hc, h24, h25, h38⟩ := hI
 unfold d2a a3h
 by_cases e : n.op = 18
 . rw [e] at ha
   simp only [e, if_true]
   have := c7s hi (a3o (r := 100) ha (.inl rfl)) 0 (a9o p)
   simpa using this
 simp only [e, if_false]
 by_cases e : alO n.op = true
 . simp only [e, if_true]
   have e' : n.op = 21 \/ n.op = 22 \/ n.op = 23 \/ n.op = 24 := by simpa [alO, or_assoc] using e
   have hra : isR p.funcs[i] n.a := by
    refine a3o (r := (rR n.op).1) ha (.inl ?_)
    rcases e' with e | e | e | e <;> rw [e] <;> rfl
   have ho : 0 <= (objR (a0l p) ((i : Int), (pc : Int)) : Int) /\ (objR (a0l p) ((i : Int), (pc : Int)) : Int) < ((a0l p).length : Int) := by
    have := b4t p ((i : Int), (pc : Int)); omega
   have h1 := c7s hi hra _ (b4t p ((i : Int), (pc : Int)))
   by_cases e2 : n.op = 24
   . simp only [e2, if_true, true_imp_iff]
     have h2 := (e7z (i := i) (n := n) ho n.c.toNat).comp h1
     exact h2.congr (fun _ _ => rfl) fun x _ => And.comm
   . simp only [e2, if_false, false_imp_iff, and_true]
     exact h1
 simp only [e]
 by_cases e : n.op = 3 \/ n.op = 19 \/ n.op = 20
 . simp only [e, if_true]
   refine b3e hi (a3o (r := (rR n.op).1) ha (.inl ?_)) fun x hx => hx.regB i _
   rcases e with e | e | e <;> rw [e] <;> rfl
 simp only [e, if_false]
 by_cases e : n.op = 25
 . rw [e] at ha
   simp only [e, if_true]
   exact c0o hi (a3o (r := 100) ha (.inl rfl)) 0
 simp only [e, if_false]
 by_cases e : n.op = 33 \/ n.op = 35
 . simp only [e, if_true]
   refine c0o hi (a3o (r := (rR n.op).1) ha (.inl ?_)) _
   rcases e with e | e <;> rw [e] <;> rfl
 simp only [e, if_false]
 by_cases e : n.op = 34 \/ n.op = 36 \/ n.op = 47
 . simp only [e, if_true]
   exact b4y (fun x hx => hx.regB i _) fun x hx => hx.regB i _
 simp only [e, if_false]
 by_cases e : n.op = 38
 . simp only [e, if_true]
   exact b4y (fun x hx => hx.regB i _) fun x hx => hx.regB i _
 simp only [e, if_false]
 by_cases e : n.op = 48
 . simp only [e, if_true]
   rw [e] at ha
   have hd := b1m (r := 68) ha (.inl rfl)
   by_cases h0 : 0 <= n.a
   . simp only [h0, if_true, true_imp_iff]
     exact c0o hi ⟨h0, hd.2⟩ _
   . simp only [h0, if_false, false_imp_iff]
     exact GF.id p
 simp only [e, if_false]
 by_cases e : n.op = 51
 . simp only [e, if_true]
   rw [e] at hc
   by_cases h1 : n.b = 1
   . simp only [h1, if_true]
     exact b4y (fun x hx => hx.regB i _) fun x hx => hx.regB i _
   . simp only [h1, if_false]
     by_cases h0 : 0 <= n.c
     . simp only [h0, if_true, true_imp_iff]
       refine c0o hi ⟨h0, ?_⟩ _
       have hc : opR p p.funcs[i] n 99 n.c = true := hc
       simp [opR] at hc
       exact hc.1.2
     . simp only [h0, if_false, false_imp_iff]
       exact GF.id p
 simp only [e, if_false]
 by_cases e : n.op = 26 \/ n.op = 28 \/ n.op = 31
 . simp only [e, if_true]
   have hb' : opR p p.funcs[i] n 102 n.b = true := by rcases e with e | e | e <;> rw [e] at hb <;> exact hb
   obtain ⟨b0, b1, c0, c1⟩ := b0c hp (gm_ hi) hb'
   have hbl : n.b.toNat < p.funcs.length := by omega
   have hfn : fnAt p n.b = p.funcs[n.b.toNat] := by unfold fnAt; rw [gD_, gE_ hbl, gS_]
   have hpr := hp.regs (gm_ hbl)
   rw [hfn]
   have h1 := e7x (i := i) (n := n) b0 hbl hpr (p.funcs[n.b.toNat].params.toNat) (by have := hpr.p0; omega)
   by_cases e2 : n.op = 26 /\ 0 <= n.a
   . simp only [e2, if_true, true_imp_iff]
     have hd : isR p.funcs[i] n.a := ⟨e2.2, by
      rw [e2.1] at ha
      exact (b1m (r := 68) ha (.inl rfl)).2⟩
     have := h1.comp (e7w hp hi hd hbl)
     simpa [e2.1, e2.2] using this
   . simp only [e2, if_false, false_imp_iff, and_true]
     exact h1
 simp only [e, if_false]
 by_cases e : n.op = 27 \/ n.op = 29 \/ n.op = 32
 . simp only [e, if_true]
   exact e8a hp i n.a
 simp only [e, if_false]
 exact GF.id p
noncomputable def a5t (p : Pg) (x : Pts) : Prop := ∀ i (hi : i < p.funcs.length) j (hj : j < p.funcs[i].code.length), a3h p i j p.funcs[i].code[j] x
theorem e7y {p : Pg} (hp : VOk p) {i : Nat} (hi : i < p.funcs.length) (k : Nat) (hk : k <= p.funcs[i].code.length) : GF p (c4x p i p.funcs[i].code k) (fun x => ∀ j (hj : j < p.funcs[i].code.length), j < k -> a3h p i j p.funcs[i].code[j] x) := by
 induction k with
 | zero => exact (GF.id p).congr (fun _ _ => rfl) fun x _ => by simp
 | succ k ih =>
   have hk' : k < p.funcs[i].code.length := by omega
   have := (ih (by omega)).comp (e7v hp hi k (gm_ hk'))
   refine this.congr (fun x _ => by simp only [c4x, gE_ hk']) fun x _ => ?_
   constructor
   . rintro ⟨h1, h2⟩ j hj hjk
     by_cases e : j = k
     . subst e; exact h2
     . exact h1 j hj (by omega)
   . intro h
     exact ⟨fun j hj hjk => h j hj (by omega), h k hk' (by omega)⟩
theorem c7r {p : Pg} (hp : VOk p) (k : Nat) (hk : k <= p.funcs.length) : GF p (fun x => c3w p x k) (fun x => ∀ i (hi : i < p.funcs.length), i < k -> ∀ j (hj : j < p.funcs[i].code.length), a3h p i j p.funcs[i].code[j] x) := by
 induction k with
 | zero => exact (GF.id p).congr (fun _ _ => rfl) fun x _ => by simp
 | succ k ih =>
   have hk' : k < p.funcs.length := by omega
   have := (ih (by omega)).comp (e7y hp hk' _ (nr_ _))
   refine this.congr (fun x _ => by simp only [c3w, gE_ hk']) fun x _ => ?_
   constructor
   . rintro ⟨h1, h2⟩ i hi hik j hj
     by_cases e : i = k
     . subst e; exact h2 j hj hj
     . exact h1 i hi (by omega) j hj
   . intro h
     exact ⟨fun i hi hik j hj => h i hi (by omega) j hj, fun j hj _ => h k hk' (by omega) j hj⟩
theorem d9r {p : Pg} (hp : a2c p = true) {x : Pts} (hx : Form p x) : b5v p x = x ↔ a5t p x := by
 have := (c7r (vOk hp) p.funcs.length (nr_ _)).2 x hx
 unfold b5v a5t
 refine this.trans ⟨fun h i hi j hj => h i hi hi j hj, fun h i hi _ j hj => h i hi j hj⟩
def okA (n : Nat) (l : List Int) : Prop := l.Nodup /\ ∀ x ∈ l, 0 <= x /\ x < (n : Int)
structure Shp (p : Pg) (y : Pts) : Prop where
 sites : y.sites = a0l p
 cn : y.cells.length = (a0l p).length
 rn : y.regs.length = p.funcs.length
 fn : ∀ f (h : f < y.regs.length) (h' : f < p.funcs.length), (y.regs[f].length : Int) = p.funcs[f].regs
 rs : ∀ f (h : f < y.regs.length), ∀ s ∈ y.regs[f], okA (a0l p).length s
 cs : ∀ s ∈ y.cells, okA (a0l p).length s
theorem d4t {l : List Int} (h : inc l) : l.Nodup := by
 rw [List.nodup_iff_pairwise_ne]
 exact List.Pairwise.imp (fun h => by omega) h
theorem okS.a {n : Nat} {l : List Int} (h : okS n l) : okA n l := ⟨d4t h.1, h.2⟩
theorem Form.shp {p : Pg} {x : Pts} (h : Form p x) : Shp p x := ⟨h.sites, h.cn, h.rn, h.fn, fun f hf s hs => (h.rs f hf s hs).a, fun s hs => (h.cs s hs).a⟩
theorem okA.nil (n : Nat) : okA n [] := ⟨List.nodup_nil, by simp⟩
theorem Shp.reg {p : Pg} {x : Pts} (h : Shp p x) (f : Nat) (a : Int) : okA (a0l p).length (rg x f a) := by
 unfold rg
 by_cases hf : f < x.regs.length
 . rw [gD_, gD_, gE_ hf, gS_]
   by_cases ha : a.toNat < x.regs[f].length
   . rw [gE_ ha, gS_]
     exact h.rs f hf _ (gm_ ha)
   . rw [gn_ (by omega)]
     exact okA.nil _
 . rw [gD_, gD_, gn_ (l := x.regs) (by omega)]
   exact okA.nil _
theorem Shp.cell {p : Pg} {x : Pts} (h : Shp p x) (o : Int) : okA (a0l p).length (cl x o) := by
 unfold cl
 by_cases ha : o.toNat < x.cells.length
 . rw [gD_, gE_ ha, gS_]
   exact h.cs _ (gm_ ha)
 . rw [gD_, gn_ (by omega)]
   exact okA.nil _
theorem b5x : ∀ (n : Nat) (l : List Nat), l.Nodup -> (∀ x ∈ l, x < n) -> l.length <= n
 | 0, l, _, h => by
   cases l with
   | nil => simp
   | cons a l => exact absurd (h a (by simp)) (by omega)
 | n + 1, l, hn, h => by
   have ih := b5x n (l.erase n) (hn.erase n) fun x hx => by
    rw [hn.mem_erase_iff] at hx
    have := h x hx.2
    have := hx.1
    omega
   rw [List.length_erase] at ih
   split at ih <;> omega
theorem b1n {n : Nat} {l : List Int} (h : okA n l) : l.length <= n := by
 have hnd : (l.map Int.toNat).Nodup := by
  rw [List.nodup_iff_pairwise_ne, List.pairwise_map]
  refine (List.nodup_iff_pairwise_ne.1 h.1).imp_of_mem ?_
  intro a b ha hb hne e
  have := h.2 a ha
  have := h.2 b hb
  omega
 have := b5x n _ hnd fun k hk => by
  obtain ⟨a, ha, rfl⟩ := List.mem_map.1 hk
  have := h.2 a ha
  omega
 simpa using this
inductive SL where
 | r (f a : Nat)
 | c (o : Nat)
 deriving DecidableEq
def getS (y : Pts) : SL -> List Int
 | .r f a => rg y f (a : Int)
 | .c o => cl y (o : Int)
def setS (y : Pts) : SL -> List Int -> Pts
 | .r f a, s => setR y f (a : Int) s
 | .c o, s => setC y (o : Int) s
def SL.ok (y : Pts) : SL -> Prop
 | .r f a => f < y.regs.length /\ a < (y.regs.getD f []).length
 | .c o => o < y.cells.length
theorem b2m {y : Pts} {s : SL} (h : s.ok y) (l : List Int) (t : SL) : getS (setS y s l) t = if s = t then l else getS y t := by
 cases s with
 | r f a =>
   obtain ⟨h1, h2⟩ := h
   cases t with
   | r g b =>
     simp only [getS, setS, setR, rg, tN_, a5j, SL.r.injEq]
     by_cases e1 : f = g
     . subst e1
       simp only [true_and, h1, if_true, a5j]
       by_cases e2 : a = b
       . subst e2; simp only [true_and, h2, if_true]
       . simp [e2]
     . simp [e1]
   | c o => simp [getS, setS, setR, cl]
 | c o =>
   have h : o < y.cells.length := h
   cases t with
   | r g b => simp [getS, setS, setC, rg]
   | c q =>
     simp only [getS, setS, setC, cl, tN_, a5j, SL.c.injEq]
     by_cases e : o = q
     . subst e; simp [h]
     . simp [e]
structure ple (y z : Pts) : Prop where
 sites : z.sites = y.sites
 cn : z.cells.length = y.cells.length
 rn : z.regs.length = y.regs.length
 fn : ∀ f : Nat, (z.regs.getD f []).length = (y.regs.getD f []).length
 pf : ∀ t : SL, getS y t <+: getS z t
theorem ple.refl (y : Pts) : ple y y := ⟨rfl, rfl, rfl, fun _ => rfl, fun _ => List.prefix_refl _⟩
theorem ple.trans {x y z : Pts} (h : ple x y) (h' : ple y z) : ple x z := ⟨h'.sites.trans h.sites, h'.cn.trans h.cn, h'.rn.trans h.rn, fun f => (h'.fn f).trans (h.fn f), fun t => (h.pf t).trans (h'.pf t)⟩
theorem ple.ok {y z : Pts} (h : ple y z) {t : SL} (ht : t.ok y) : t.ok z := by
 cases t with
 | r f a => exact ⟨by rw [h.rn]; exact ht.1, by rw [h.fn]; exact ht.2⟩
 | c o => show o < z.cells.length; rw [h.cn]; exact ht
def sub (y z : Pts) : Prop := z.sites = y.sites /\ ∀ t : SL, ∀ o ∈ getS y t, o ∈ getS z t
theorem sub.refl (y : Pts) : sub y y := ⟨rfl, fun _ _ h => h⟩
theorem sub.trans {x y z : Pts} (h : sub x y) (h' : sub y z) : sub x z := ⟨h'.1.trans h.1, fun t o ho => h'.2 t o (h.2 t o ho)⟩
theorem ple.sub {y z : Pts} (h : ple y z) : sub y z := ⟨h.sites, fun t _ ho => (h.pf t).subset ho⟩
def lens (l : List (List Int)) : Nat := (l.map List.length).sum
def a9n (y : Pts) : Nat := (y.regs.map lens).sum + lens y.cells
theorem c7b {l : List (List Int)} {i : Nat} (h : i < l.length) (a : List Int) : lens (l.set i a) + l[i].length = lens l + a.length := by
 induction l generalizing i with
 | nil => simp at h
 | cons x l ih =>
   cases i with
   | zero => simp [lens]; omega
   | succ i =>
     have := ih (i := i) (by simpa using h)
     simp only [lens, List.set_cons_succ, List.map_cons, List.sum_cons, List.getElem_cons_succ] at this ⊢
     omega
theorem d4e {l : List (List (List Int))} {i : Nat} (h : i < l.length) (a : List (List Int)) : ((l.set i a).map lens).sum + lens l[i] = (l.map lens).sum + lens a := by
 induction l generalizing i with
 | nil => simp at h
 | cons x l ih =>
   cases i with
   | zero => simp; omega
   | succ i =>
     have := ih (i := i) (by simpa using h)
     simp only [List.set_cons_succ, List.map_cons, List.sum_cons, List.getElem_cons_succ] at this ⊢
     omega
theorem d2e {y : Pts} {s : SL} (h : s.ok y) (l : List Int) : a9n (setS y s l) + (getS y s).length = a9n y + l.length := by
 cases s with
 | r f a =>
   obtain ⟨h1, h2⟩ := h
   rw [gD_, gE_ h1, gS_] at h2
   have k1 := d4e h1 (y.regs[f].set a l)
   have k2 := c7b h2 l
   simp only [a9n, setS, setR, getS, rg, tN_, gD_, gE_ h1, gS_, gE_ h2]
   omega
 | c o =>
   have h : o < y.cells.length := h
   have k2 := c7b h l
   simp only [a9n, setS, setC, getS, cl, tN_, gD_, gE_ h, gS_]
   omega
theorem d3h {y : Pts} {s : SL} (h : s.ok y) (l : List Int) : ple y (setS y s (getS y s ++ l)) := by
 refine ⟨?_, ?_, ?_, fun f => ?_, fun t => ?_⟩
 . cases s <;> rfl
 . cases s <;> simp [setS, setR, setC]
 . cases s <;> simp [setS, setR, setC]
 . cases s with
   | r g a =>
     simp only [setS, setR, a5j]
     split
     . rename_i e; obtain ⟨rfl, _⟩ := e; simp
     . rfl
   | c o => rfl
 . rw [b2m h]
   split
   . rename_i e; subst e; exact List.prefix_append _ _
   . exact List.prefix_refl _
theorem Shp.set {p : Pg} {y : Pts} (hy : Shp p y) {s : SL} (h : s.ok y) {l : List Int} (hl : okA (a0l p).length l) : Shp p (setS y s l) := by
 cases s with
 | r f a =>
   obtain ⟨h1, h2⟩ := h
   refine ⟨hy.sites, hy.cn, by simp [setS, setR, hy.rn], fun g hg hg' => ?_, fun g hg s hs => ?_, hy.cs⟩
   . simp only [setS, setR, List.getElem_set]
     split
     . rename_i e; subst e
       rw [List.length_set, gD_, gE_ h1, gS_]
       exact hy.fn _ h1 hg'
     . exact hy.fn g (by simpa [setS, setR] using hg) hg'
   . simp only [setS, setR, List.getElem_set] at hs
     split at hs
     . rename_i e; subst e
       rw [gD_, gE_ h1, gS_] at hs
       rcases List.mem_or_eq_of_mem_set hs with hs | rfl
       . exact hy.rs _ h1 s hs
       . exact hl
     . exact hy.rs g (by simpa [setS, setR] using hg) s hs
 | c o =>
   refine ⟨hy.sites, by simp [setS, setC, hy.cn], hy.rn, hy.fn, hy.rs, fun s hs => ?_⟩
   rcases List.mem_or_eq_of_mem_set hs with hs | rfl
   . exact hy.cs s hs
   . exact hl
theorem Shp.gets {p : Pg} {y : Pts} (h : Shp p y) (t : SL) : okA (a0l p).length (getS y t) := by
 cases t with
 | r f a => exact h.reg f a
 | c o => exact h.cell o
theorem c6e {p : Pg} {y : Pts} (hy : Shp p y) (hr : ∀ f ∈ p.funcs, f.regs <= 64) : a9n y <= (p.funcs.length * 64 + (a0l p).length) * (a0l p).length := by
 have key : ∀ (l : List (List Int)), (∀ s ∈ l, okA (a0l p).length s) -> lens l <= l.length * (a0l p).length := by
  intro l
  induction l with
  | nil => intro _; simp [lens]
  | cons a l ih =>
    intro h
    have h1 := b1n (h a (by simp))
    have h2 := ih fun s hs => h s (by simp [hs])
    simp only [lens, List.map_cons, List.sum_cons, List.length_cons, Nat.add_mul, Nat.one_mul] at h2 ⊢
    omega
 have h1 := key y.cells hy.cs
 rw [hy.cn] at h1
 have h2 : ∀ (l : List (List (List Int))), (∀ r ∈ l, r.length <= 64 /\ ∀ s ∈ r, okA (a0l p).length s) -> (l.map lens).sum <= l.length * 64 * (a0l p).length := by
  intro l
  induction l with
  | nil => intro _; simp
  | cons a l ih =>
    intro h
    have h1 := key a (h a (by simp)).2
    have h2 := ih fun s hs => h s (by simp [hs])
    have h3 : a.length * (a0l p).length <= 64 * (a0l p).length := Nat.mul_le_mul_right _ (h a (by simp)).1
    simp only [List.map_cons, List.sum_cons, List.length_cons, Nat.add_mul, Nat.one_mul] at h2 ⊢
    omega
 have h3 := h2 y.regs fun r hr' => by
  obtain ⟨f, hf, rfl⟩ := List.getElem_of_mem hr'
  have hf' : f < p.funcs.length := by rw [<- hy.rn]; exact hf
  have h4 := hy.fn f hf hf'
  have := hr _ (gm_ hf')
  exact ⟨by omega, hy.rs f hf⟩
 rw [hy.rn] at h3
 unfold a9n
 rw [Nat.add_mul]
 omega
structure TR (m : Bool) (Cn Cs : Pts -> Prop) (y : Pts) (b : Bool) (y' : Pts) (b' : Bool) : Prop where
 pre : ple y y'
 least : ∀ z, Cs z -> sub y z -> sub y' z
 good : b' = m -> b = m /\ y' = y /\ Cn y
 snd : m = true -> y' = y /\ (b = true -> Cs y -> b' = true)
 prog : m = false -> (y' = y /\ b' = b) \/ (a9n y < a9n y' /\ b' = true)
section
variable {m : Bool} {Cn Cs Dn Ds : Pts -> Prop} {y y1 y2 : Pts} {b b1 b2 : Bool}
theorem TR.id (h : Cn y) : TR m Cn Cs y b y b := ⟨ple.refl y, fun _ _ h => h, fun e => ⟨e, rfl, h⟩, fun _ => ⟨rfl, fun h _ => h⟩, fun _ => .inl ⟨rfl, rfl⟩⟩
theorem TR.comp (h : TR m Cn Cs y b y1 b1) (h' : TR m Dn Ds y1 b1 y2 b2) : TR m (fun z => Cn z /\ Dn z) (fun z => Cs z /\ Ds z) y b y2 b2 := by
 refine ⟨h.pre.trans h'.pre, fun z hz hs => h'.least z hz.2 (h.least z hz.1 hs), fun e => ?_, fun e => ?_, fun e => ?_⟩
 . obtain ⟨e1, rfl, c1⟩ := h'.good e
   obtain ⟨e2, rfl, c2⟩ := h.good e1
   exact ⟨e2, rfl, c2, c1⟩
 . obtain ⟨rfl, g1⟩ := h.snd e
   obtain ⟨rfl, g2⟩ := h'.snd e
   exact ⟨rfl, fun hb hc => g2 (g1 hb hc.1) hc.2⟩
 . rcases h.prog e with ⟨rfl, rfl⟩ | ⟨g1, rfl⟩
   . exact h'.prog e
   . rcases h'.prog e with ⟨rfl, rfl⟩ | ⟨g2, rfl⟩
     . exact .inr ⟨g1, rfl⟩
     . exact .inr ⟨Nat.lt_trans g1 g2, rfl⟩
theorem TR.mono (h : TR m Cn Cs y b y1 b1) (hn : Cn y -> Dn y) (hs : ∀ z, sub y z -> Ds z -> Cs z) : TR m Dn Ds y b y1 b1 :=
 ⟨h.pre, fun z hz hs' => h.least z (hs z hs' hz) hs', fun e => ⟨(h.good e).1, (h.good e).2.1, hn (h.good e).2.2⟩, fun e => ⟨(h.snd e).1, fun hb hc => (h.snd e).2 hb (hs y (sub.refl y) hc)⟩, h.prog⟩
theorem TR.next (h : TR m Cn Cs y b y1 b1) (h' : TR m Dn Ds y1 b1 y2 b2) (hs : ∀ z, sub y1 z -> Cs z -> Ds z) : TR m (fun z => Cn z /\ Dn z) Cs y b y2 b2 := by
 refine ⟨h.pre.trans h'.pre, fun z hz hs' => h'.least z (hs z (h.least z hz hs') hz) (h.least z hz hs'), fun e => ?_, fun e => ?_, fun e => ?_⟩
 . obtain ⟨e1, rfl, c1⟩ := h'.good e
   obtain ⟨e2, rfl, c2⟩ := h.good e1
   exact ⟨e2, rfl, c2, c1⟩
 . obtain ⟨rfl, g1⟩ := h.snd e
   obtain ⟨rfl, g2⟩ := h'.snd e
   exact ⟨rfl, fun hb hc => g2 (g1 hb hc) (hs _ (sub.refl _) hc)⟩
 . rcases h.prog e with ⟨rfl, rfl⟩ | ⟨g1, rfl⟩
   . exact h'.prog e
   . rcases h'.prog e with ⟨rfl, rfl⟩ | ⟨g2, rfl⟩
     . exact .inr ⟨g1, rfl⟩
     . exact .inr ⟨Nat.lt_trans g1 g2, rfl⟩
theorem TR.shp {p : Pg} (_h : TR m Cn Cs y b y1 b1) (hy : Shp p y1) : Shp p y1 := hy
end
def inS (t : SL) (l : List Int) (z : Pts) : Prop := subR (getS z t) l
theorem TR.lay {t : SL} {y : Pts} {b : Bool} (ht : t.ok y) (o : Int) : TR false (fun _ => False) (inS t [o]) y b (setS y t (getS y t ++ [o])) true := by
 refine ⟨d3h ht [o], fun z hz hs => ⟨hs.1.trans (d3h ht [o]).sites.symm, fun s q hq => ?_⟩, fun e => by simp at e, fun e => by simp at e, fun _ => .inr ⟨?_, rfl⟩⟩
 . rw [b2m ht] at hq
   split at hq
   . rename_i e; subst e
     rcases List.mem_append.1 hq with hq | hq
     . exact hs.2 _ q hq
     . simp at hq; subst hq; exact hz q (by simp)
   . exact hs.2 s q hq
 . have := d2e ht (getS y t ++ [o])
   simp at this
   omega
structure LI (p : Pg) (m : Bool) (t : SL) (C : Pts -> Int -> Prop) (Y : Pts) (g : Bool) (sn : List Nat) (lst : Nat) (Z : Pts) (h : Bool) : Prop where
 nd : sn.Nodup
 lt : ∀ i ∈ sn, i < lst
 le : lst <= (getS Z t).length
 sh : Shp p Z
 tr : TR m (fun z => ∀ i ∈ sn, C z ((getS z t).getD i 0)) (fun z => ∀ o ∈ getS z t, C z o) Y g Z h
section
variable {p : Pg} {m : Bool} {t : SL} {C Dc : Pts -> Int -> Prop} {Y Z Z2 : Pts} {g h h2 : Bool} {sn : List Nat} {lst i : Nat} {Dn Ds : Pts -> Prop}
theorem LI.start (hy : Shp p Y) : LI p m t C Y g [] (getS Y t).length Y g := ⟨List.nodup_nil, by simp, nr_ _, hy, TR.id (by simp)⟩
theorem LI.lt' (H : LI p m t C Y g sn lst Z h) : ∀ j ∈ sn, j < (getS Z t).length := fun j hj => Nat.lt_of_lt_of_le (H.lt j hj) H.le
theorem b8f {n : Nat} (hnd : sn.Nodup) (hlt : ∀ j ∈ sn, j < n) (hi : i < n) (hn : i ∉ sn) : (sn ++ [i]).Nodup /\ (∀ j ∈ sn ++ [i], j < n) /\ sn.length < n := by
 have h1 : (sn ++ [i]).Nodup := by
  rw [List.nodup_append]
  refine ⟨hnd, by simp, fun a ha b hb e => ?_⟩
  simp at hb
  subst hb; subst e
  exact hn ha
 have h2 : ∀ j ∈ sn ++ [i], j < n := fun j hj => by
  rcases List.mem_append.1 hj with hj | hj
  . exact hlt j hj
  . simp at hj; omega
 have := b5x n _ h1 h2
 simp at this
 exact ⟨h1, h2, by omega⟩
theorem LI.len (H : LI p m t C Y g sn lst Z h) (hi : i < (getS Z t).length) (hn : i ∉ sn) : sn.length < (a0l p).length := by
 have := (b8f H.nd H.lt' hi hn).2.2
 have := b1n (H.sh.gets t)
 omega
theorem LI.step (H : LI p m t C Y g sn lst Z h) (hi : i < (getS Z t).length) (hn : i ∉ sn) (hsh : Shp p Z2) (hT : TR m Dn Ds Z h Z2 h2) (hds : ∀ z, sub Z z -> C z (getS Z t)[i] -> Ds z) (hdn : Dn Z -> C Z (getS Z t)[i]) : LI p m t C Y g (sn ++ [i]) (getS Z t).length Z2 h2 := by
 obtain ⟨k1, k2, _⟩ := b8f H.nd H.lt' hi hn
 refine ⟨k1, k2, (hT.pre.pf t).length_le, hsh, ?_⟩
 have hmem : (getS Z t)[i] ∈ getS Z t := gm_ hi
 refine ⟨H.tr.pre.trans hT.pre, fun z hz hs => ?_, fun e => ?_, fun e => ?_, fun e => ?_⟩
 . have h1 := H.tr.least z hz hs
   exact hT.least z (hds z h1 (hz _ (h1.2 t _ hmem))) h1
 . obtain ⟨e1, rfl, c1⟩ := hT.good e
   obtain ⟨e2, rfl, c2⟩ := H.tr.good e1
   refine ⟨e2, rfl, fun j hj => ?_⟩
   rcases List.mem_append.1 hj with hj | hj
   . exact c2 j hj
   . simp at hj; subst hj
     rw [gD_, gE_ hi, gS_]
     exact hdn c1
 . obtain ⟨rfl, g1⟩ := H.tr.snd e
   obtain ⟨rfl, g2⟩ := hT.snd e
   exact ⟨rfl, fun hb hc => g2 (g1 hb hc) (hds _ (sub.refl _) (hc _ hmem))⟩
 . rcases H.tr.prog e with ⟨rfl, rfl⟩ | ⟨g1, rfl⟩
   . exact hT.prog e
   . rcases hT.prog e with ⟨rfl, rfl⟩ | ⟨g2, rfl⟩
     . exact .inr ⟨g1, rfl⟩
     . exact .inr ⟨Nat.lt_trans g1 g2, rfl⟩
theorem LI.fin (H : LI p m t C Y g sn lst Z h) (hz : ∀ i, i < (getS Y t).length -> i ∈ sn) : TR m (fun z => ∀ o ∈ getS z t, C z o) (fun z => ∀ o ∈ getS z t, C z o) Y g Z h :=
 H.tr.mono (fun hc o ho => by
  obtain ⟨i, hi, rfl⟩ := List.getElem_of_mem ho
  have := hc i (hz i hi)
  rwa [gD_, gE_ hi, gS_] at this) fun _ _ h => h
end
theorem a6p (y : Pts) (f : Nat) (a : Int) : getS y (.r f a.toNat) = rg y f a := by
 show (y.regs.getD f []).getD (((a.toNat : Nat) : Int)).toNat [] = _
 rw [tN_]; rfl
theorem b6k {y : Pts} {o : Int} : getS y (.c o.toNat) = cl y o := by
 show y.cells.getD (((o.toNat : Nat) : Int)).toNat [] = _
 rw [tN_]; rfl
theorem Shp.at {p : Pg} {y : Pts} (hy : Shp p y) {f : Nat} (hf : f < p.funcs.length) : ∃ h : f < y.regs.length, y.regs[f].length = p.funcs[f].regs.toNat := by
 have h1 : f < y.regs.length := by rw [hy.rn]; exact hf
 exact ⟨h1, by have := hy.fn f h1 hf; omega⟩
theorem Shp.rok {p : Pg} {y : Pts} (hy : Shp p y) {f : Nat} (hf : f < p.funcs.length) {a : Int} (ha : isR p.funcs[f] a) : (SL.r f a.toNat).ok y := by
 obtain ⟨h1, h2⟩ := hy.at hf
 obtain ⟨h3, h4⟩ := ha
 refine ⟨h1, ?_⟩
 rw [gD_, gE_ h1, gS_]
 omega
theorem Shp.cok {p : Pg} {y : Pts} (hy : Shp p y) {o : Int} (h0 : 0 <= o) (h1 : o < ((a0l p).length : Int)) : (SL.c o.toNat).ok y := by
 show o.toNat < y.cells.length
 rw [hy.cn]; omega
def rdC (f : Nat) (a : Int) (z : Pts) (o : Int) : Prop := subR (rg z f a) (cl z o)
def wrC (f : Nat) (a : Int) (z : Pts) (o : Int) : Prop := subR (cl z o) (rg z f a)
section
variable {m : Bool} {C C' D : Pts -> Prop} {Y Z Z2 : Pts} {g h h2 : Bool} {to fr : SL}
theorem TR.congr (H : TR m C C Y g Z h) (hk : ∀ z, C' z ↔ C z) : TR m C' C' Y g Z h := H.mono (hk Y).2 fun z _ => (hk z).1
theorem TR.stepk (H : TR m C C Y g Z h) (hT : TR m (inS to (getS Z fr)) (inS to (getS Z fr)) Z h Z2 h2) (hk : ∀ z, C' z ↔ C z /\ subR (getS z to) (getS z fr)) : TR m C' C' Y g Z2 h2 := by
 have h1 := H.comp (hT.mono (Dn := fun z => subR (getS z to) (getS z fr)) (Ds := fun z => subR (getS z to) (getS z fr)) (fun h => h) fun z hs hz q hq => hz q (hs.2 fr q hq))
 exact h1.congr hk
theorem TR.step1 {o : Int} (H : TR m C C Y g Z h) (hT : TR m (inS to [o]) (inS to [o]) Z h Z2 h2) (hk : ∀ z, C' z ↔ C z /\ subR (getS z to) [o]) : TR m C' C' Y g Z2 h2 := (H.comp hT).congr hk
end
def prC (f : Nat) (n : Ins) (nb k : Nat) (z : Pts) : Prop := ∀ j : Nat, j < k -> subR (rg z nb j) (rg z f (n.c + j))
theorem e6l (f : Nat) (n : Ins) (nb : Nat) (z : Pts) : prC f n nb 0 z := fun _ h => absurd h (by omega)
theorem e6k {f : Nat} {n : Ins} {nb k : Nat} (z : Pts) : prC f n nb (k + 1) z ↔ prC f n nb k z /\ subR (getS z (.r nb k)) (getS z (.r f (n.c + k).toNat)) := by
 have e1 : getS z (.r nb k) = rg z nb (k : Int) := rfl
 rw [a6p, e1]
 constructor
 . intro h; exact ⟨fun j hj => h j (by omega), h k (by omega)⟩
 . rintro ⟨h1, h2⟩ j hj
   by_cases e : j = k
   . subst e; exact h2
   . exact h1 j (by omega)
def rtC (f : Nat) (n : Ins) (nb : Nat) (code : List Ins) (k : Nat) (z : Pts) : Prop := ∀ j (hj : j < code.length), j < k -> code[j].op = 30 /\ 0 <= code[j].a -> subR (rg z f n.a) (rg z nb code[j].a)
theorem f6r (f : Nat) (n : Ins) (nb : Nat) (code : List Ins) (z : Pts) : rtC f n nb code 0 z := fun _ _ h => absurd h (by omega)
theorem f6p {f : Nat} {n : Ins} {nb : Nat} {code : List Ins} {k : Nat} (hk : k < code.length) (h30 : code[k].op = 30) (h0 : 0 <= code[k].a) (z : Pts) : rtC f n nb code (k + 1) z ↔ rtC f n nb code k z /\ subR (getS z (.r f n.a.toNat)) (getS z (.r nb code[k].a.toNat)) := by
 rw [a6p, a6p]
 constructor
 . intro h; exact ⟨fun j hj hjk => h j hj (by omega), h k hk (by omega) ⟨h30, h0⟩⟩
 . rintro ⟨h1, h2⟩ j hj hjk hc
   by_cases e : j = k
   . subst e; exact h2
   . exact h1 j hj (by omega) hc
theorem f6q {f : Nat} {n : Ins} {nb : Nat} {code : List Ins} {k : Nat} (hk : k < code.length) (hno : ¬ (code[k].op = 30 /\ 0 <= code[k].a)) (z : Pts) : rtC f n nb code (k + 1) z ↔ rtC f n nb code k z := by
 constructor
 . intro h j hj hjk; exact h j hj (by omega)
 . intro h j hj hjk hc
   by_cases e : j = k
   . subst e; exact absurd hc hno
   . exact h j hj (by omega) hc
def b7b (f : Nat) (n : Ins) (nb np : Nat) (code : List Ins) (z : Pts) : Prop := prC f n nb np z /\ (n.op = 26 /\ 0 <= n.a -> rtC f n nb code code.length z)
theorem TR.callN {m : Bool} {f : Nat} {n : Ins} {nb np : Nat} {code : List Ins} {Y Z : Pts} {g h : Bool} (H : TR m (prC f n nb np) (prC f n nb np) Y g Z h) (hno : ¬ (n.op = 26 /\ 0 <= n.a)) : TR m (b7b f n nb np code) (b7b f n nb np code) Y g Z h :=
 H.congr fun z => ⟨fun h => h.1, fun h => ⟨h, fun hc => absurd hc hno⟩⟩
theorem TR.callY {m : Bool} {f : Nat} {n : Ins} {nb np : Nat} {code : List Ins} {Y Z Z2 : Pts} {g h h2 : Bool} (H : TR m (prC f n nb np) (prC f n nb np) Y g Z h) (H2 : TR m (rtC f n nb code code.length) (rtC f n nb code code.length) Z h Z2 h2) (hy : n.op = 26 /\ 0 <= n.a) : TR m (b7b f n nb np code) (b7b f n nb np code) Y g Z2 h2 :=
 (H.comp H2).congr fun z => ⟨fun h => ⟨h.1, h.2 hy⟩, fun h => ⟨h.1, fun _ => h.2⟩⟩
theorem a9m {y z : Pts} (h : sub y z) (f : Nat) (a : Int) : ∀ o ∈ rg y f a, o ∈ rg z f a := fun o ho => by
 have := h.2 (.r f a.toNat) o (by rw [a6p]; exact ho)
 rwa [a6p] at this
theorem e4p {p : Pg} {y z : Pts} (h : sub y z) {o : Int} (hw : wrR p y o = true) : wrR p z o = true := by
 simp only [wrR, dE_] at hw ⊢
 obtain ⟨i, hi, n, hn, hw⟩ := hw
 exact ⟨i, hi, n, hn, hw.imp (fun ⟨a, b⟩ => ⟨a, a9m h _ _ _ b⟩) fun ⟨a, b⟩ => ⟨a, a9m h _ _ _ b⟩⟩
theorem d9t {fs : List FnD} {k : Int} (h0 : 0 <= k) (h1 : k < (fs.length : Int)) (h2 : a5v fs k = 1) : k ∈ oneP fs fs.length := by
 unfold oneP
 rw [List.mem_map]
 refine ⟨k.toNat, ?_, by omega⟩
 rw [List.mem_filter, List.mem_range]
 refine ⟨by omega, ?_⟩
 have : ((k.toNat : Nat) : Int) = k := by omega
 rw [this, h2]; rfl
theorem b2n {p : Pg} (hp : VOk p) {y z : Pts} (h : sub y z) {o : Int} : ∀ k ∈ a5w p y o, k ∈ a5w p z o := fun k hk => by
 obtain ⟨h0, h1, h2⟩ := c4g hp hk
 have hin := d9t h0 h1 h2
 unfold a5w at hk ⊢
 rw [h.1]
 generalize (if 0 < o then b7o p (y.sites.getD o.toNat (0, 0)) else ins0) = n at hk ⊢
 dsimp only at hk ⊢
 by_cases e : n.op = 23
 . rw [if_pos e] at hk; cases hk
 . rw [if_neg e] at hk ⊢
   by_cases e2 : n.op = 24 /\ wrR p z o = false
   . have e3 : n.op = 24 /\ wrR p y o = false := ⟨e2.1, by
      cases hw : wrR p y o
      . rfl
      . rw [e4p h hw] at e2; exact absurd e2.2 (by simp)⟩
     rw [if_pos e3] at hk
     rw [if_pos e2]; exact hk
   . rw [if_neg e2]; exact hin
def fcC (o : Int) (fs : List Int) (k : Nat) (z : Pts) : Prop := ∀ j (hj : j < fs.length), j < k -> subR (rg z fs[j].toNat 0) [o]
theorem f8m (o : Int) (fs : List Int) (z : Pts) : fcC o fs 0 z := fun _ _ h => absurd h (by omega)
theorem f8l {o : Int} {fs : List Int} {k : Nat} (hk : k < fs.length) (z : Pts) : fcC o fs (k + 1) z ↔ fcC o fs k z /\ subR (getS z (.r fs[k].toNat 0)) [o] := by
 have e : getS z (.r fs[k].toNat 0) = rg z fs[k].toNat 0 := rfl
 rw [e]
 constructor
 . intro h; exact ⟨fun j hj hjk => h j hj (by omega), h k hk (by omega)⟩
 . rintro ⟨h1, h2⟩ j hj hjk
   by_cases e : j = k
   . subst e; exact h2
   . exact h1 j hj (by omega)
def ccC (p : Pg) (z : Pts) (o : Int) : Prop := ∀ k ∈ a5w p z o, subR (rg z k.toNat 0) [o]
theorem fc_s {p : Pg} (hp : VOk p) {y z : Pts} (h : sub y z) {o : Int} (hc : ccC p z o) : fcC o (a5w p y o) (a5w p y o).length z := fun j hj _ => hc _ (b2n hp h _ (gm_ hj))
theorem fc_n {p : Pg} {y : Pts} {o : Int} (hc : fcC o (a5w p y o) (a5w p y o).length y) : ccC p y o := fun k hk => by
 obtain ⟨j, hj, rfl⟩ := List.getElem_of_mem hk
 exact hc j hj hj
def ckC (f : Nat) (a : Int) (O k : Nat) (z : Pts) : Prop := ∀ i : Nat, i < k -> subR (cl z (O : Int)) (rg z f (a + (i + 1)))
theorem f8x (f : Nat) (a : Int) (O : Nat) (z : Pts) : ckC f a O 0 z := fun _ h => absurd h (by omega)
theorem f8w {f : Nat} {a : Int} {O k : Nat} (z : Pts) : ckC f a O (k + 1) z ↔ ckC f a O k z /\ subR (getS z (.c O)) (getS z (.r f (a + (k + 1)).toNat)) := by
 have e : getS z (.c O) = cl z (O : Int) := rfl
 rw [a6p, e]
 constructor
 . intro h; exact ⟨fun j hj => h j (by omega), h k (by omega)⟩
 . rintro ⟨h1, h2⟩ j hj
   by_cases e : j = k
   . subst e; exact h2
   . exact h1 j (by omega)
def ldd (f r c : Nat) : SL -> Bool
 | .r g a => decide (g < f \/ (g = f /\ a < r))
 | .c o => decide (o < c)
structure Ld (p : Pg) (x : Pts) (f r c : Nat) (Y : Pts) : Prop where
 shp : Shp p Y
 at' : ∀ t, getS Y t = if ldd f r c t then getS x t else []
theorem Ld.setR {p : Pg} {x Y : Pts} {f r : Nat} (h : Ld p x f r 0 Y) (ht : (SL.r f r).ok Y) (hs : okA (a0l p).length (getS x (.r f r))) : Ld p x f (r + 1) 0 (setS Y (.r f r) (getS x (.r f r))) := by
 refine ⟨h.shp.set ht hs, fun t => ?_⟩
 rw [b2m ht]
 by_cases e : SL.r f r = t
 . subst e; simp [ldd]
 . rw [if_neg e, h.at']
   cases t with
   | r g a =>
     have : ¬ (g = f /\ a = r) := fun ⟨h1, h2⟩ => e (by rw [h1, h2])
     have e1 : ldd f (r + 1) 0 (.r g a) = ldd f r 0 (.r g a) := decide_eq_decide.2 (by omega)
     rw [e1]
   | c o => rfl
theorem Ld.setC {p : Pg} {x Y : Pts} {f o : Nat} (h : Ld p x f 0 o Y) (ht : (SL.c o).ok Y) (hs : okA (a0l p).length (getS x (.c o))) : Ld p x f 0 (o + 1) (setS Y (.c o) (getS x (.c o))) := by
 refine ⟨h.shp.set ht hs, fun t => ?_⟩
 rw [b2m ht]
 by_cases e : SL.c o = t
 . subst e; simp [ldd]
 . rw [if_neg e, h.at']
   cases t with
   | r g a => rfl
   | c q =>
     have : q ≠ o := fun h1 => e (by rw [h1])
     have e1 : ldd f 0 (o + 1) (.c q) = ldd f 0 o (.c q) := decide_eq_decide.2 (by omega)
     rw [e1]
theorem e0u {x : Pts} {g a : Nat} (h : (x.regs.getD g []).length <= a) : getS x (.r g a) = [] := by
 simp only [getS, rg, tN_]
 rw [gD_, gn_ h]; rfl
theorem Ld.next {p : Pg} {x Y : Pts} {f r : Nat} (h : Ld p x f r 0 Y) (hr : (x.regs.getD f []).length <= r) : Ld p x (f + 1) 0 0 Y := ⟨h.shp, fun t => by
 rw [h.at']
 cases t with
 | r g a =>
   by_cases e : g = f
   . subst e
     by_cases h1 : a < r
     . simp [ldd, h1]
     . have : getS x (.r g a) = [] := e0u (by omega)
       simp [ldd, h1, this]
   . have e1 : ldd (f + 1) 0 0 (.r g a) = ldd f r 0 (.r g a) := decide_eq_decide.2 (by omega)
     rw [e1]
 | c o => rfl⟩
end Go.Gv
namespace Go.Gv
open Go Go.Lib
theorem d2c (l : List (List UInt8)) : (l.mergeSort fun x y => decide (x <= y)).Pairwise (fun a b => a <= b) := by
 have := List.pairwise_mergeSort (le := fun (x y : List UInt8) => decide (x <= y)) (by
  intro a b c h1 h2
  simp only [decide_eq_true_eq] at h1 h2 ⊢
  exact List.le_trans h1 h2) (by
  intro a b
  simpa using List.le_total a b) l
 exact this.imp (by intro a b h; simpa using h)
theorem c2c {l : List (List UInt8)} (hs : l.Pairwise (fun a b => a <= b)) (h : ∀ j, j < l.length -> keeps l.toArray j = true) : l.Nodup := by
 refine List.pairwise_iff_getElem.mpr ?_
 intro i j hi hj hij he
 have hk := h (i + 1) (by omega)
 have hs' := List.pairwise_iff_getElem.mp hs
 simp only [keeps, decide_eq_true_eq, Nat.add_sub_cancel] at hk
 have e1 : l.toArray[i + 1]! = l[i + 1]'(by omega) := by simp [getElem!_pos, show i + 1 < l.length by omega]
 have e2 : l.toArray[i]! = l[i]'(by omega) := by simp [getElem!_pos, hi]
 rw [e1, e2] at hk
 rcases hk with hk | hk
 . omega
 apply hk
 refine List.le_antisymm ?_ (hs' i (i + 1) (by omega) (by omega) (by omega))
 by_cases hij' : i + 1 = j
 . subst hij'; rw [<- he]; exact List.le_refl _
 . have := hs' (i + 1) j (by omega) hj (by omega)
   rw [he]; exact this
theorem c4d {l : List (List UInt8)} (h : l.Nodup) : ∀ j, j < l.length -> keeps l.toArray j = true := by
 intro j hj
 simp only [keeps, decide_eq_true_eq]
 by_cases h0 : j = 0
 . exact .inl h0
 . right
   have e1 : l.toArray[j]! = l[j] := by simp [getElem!_pos, hj]
   have e2 : l.toArray[j - 1]! = l[j - 1]'(by omega) := by simp [getElem!_pos, show j - 1 < l.length by omega]
   rw [e1, e2]
   exact fun e => List.pairwise_iff_getElem.mp h (j - 1) j (by omega) hj (by omega) e.symm
theorem c4v {l : List (List UInt8)} (hs : l.Pairwise (fun a b => a <= b)) : (compact l).length = l.length ↔ l.Nodup := by
 constructor
 . intro h
   refine c2c hs fun j hj => ?_
   have h2 : ((List.range l.length).filter (keeps l.toArray)).length = (List.range l.length).length := by simpa [compact, compactUpTo] using h
   exact List.filter_eq_self.mp (List.filter_sublist.eq_of_length h2) j (by simpa using hj)
 . intro h
   rw [compact_all l (c4d h)]
theorem e4z (l : List (List UInt8)) : (!(decide ([] ∈ l)) && decide ((compact (l.mergeSort fun x y => decide (x <= y))).length = l.length)) = uniq l := by
 have hp := List.mergeSort_perm l (fun x y => decide (x <= y))
 have h1 := c4v (d2c l)
 rw [hp.length_eq] at h1
 rw [hp.nodup_iff] at h1
 simp only [uniq, h1, Bool.and_comm, <- decide_not]
end Go.Gv
