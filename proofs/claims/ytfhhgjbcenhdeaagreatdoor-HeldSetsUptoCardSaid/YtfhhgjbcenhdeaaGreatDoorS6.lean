/- Part. -/
import Derived.Test.YtfhhgjbcenhdeaaGreatDoorS5
import Derived.Test.YtfhhgjbcenhdeaaGreatDoorProg
import Derived.Shelf.Spec.TrailingZeros
import Derived.KernelRfl
import Derived.Lib.SlicesCompact
import Derived.Lib.SlicesS
import Derived.Test.YtfhhgjbcenhdeaaGreatDoorS2
import Derived.WalkKit
set_option linter.all false
set_option maxRecDepth 100000
set_option maxHeartbeats 0
namespace Go.Gv
open Go Go.FM
structure Ins where
 op : Int
 a : Int
 b : Int
 c : Int
 d : Int
 deriving DecidableEq
structure FnD where
 name : ByteArray
 params : Int
 regs : Int
 code : List Ins
variable {f : FnD}
structure Gb where
 name : ByteArray
 kind : Int
def FnD.nm (f : FnD) : List UInt8 := f.name.data.toList
def Gb.nm (f : Gb) : List UInt8 := f.name.data.toList
structure Pg where
 fu : List FnD
 gl : List Gb
 la : List (List Int)
 main : Int
variable {p : Pg}
abbrev W (n : Int) : Int := IntKind.wrap .i64 n
theorem W_id {n : Int} (h : -9223372036854775808 <= n) (h' : n < 9223372036854775808) : W n = n := by
 unfold W; rw [IntKind.wrap_i64]; omega
def btw (v lo hi : Int) : Bool := decide (lo <= v) && decide (v <= hi)
def opAt (l : List Ins) (v : Int) : Int := match l[v.toNat]? with
 | some y => y.op
 | none => 0
def a4d (l : List FnD) (v : Int) : Int := match l[v.toNat]? with
 | some y => y.params
 | none => 0
def rI : Int -> Int × Int × Int
 | 1 => (100, 105, 45)
 | 2 => (100, 45, 45)
 | 3 => (100, 115, 45)
 | 4 => (100, 115, 115)
 | 5 => (100, 115, 115)
 | 6 => (100, 115, 115)
 | 7 => (100, 115, 115)
 | 8 => (100, 115, 115)
 | 9 => (100, 115, 45)
 | 10 => (100, 115, 45)
 | 11 => (100, 115, 115)
 | 12 => (100, 115, 115)
 | 13 => (100, 115, 115)
 | 14 => (100, 115, 115)
 | 15 => (100, 115, 45)
 | 16 => (45, 45, 116)
 | 17 => (115, 45, 116)
 | 18 => (100, 103, 45)
 | 19 => (100, 115, 110)
 | 20 => (100, 115, 115)
 | 21 => (100, 108, 45)
 | 22 => (100, 115, 45)
 | 23 => (100, 115, 45)
 | 24 => (100, 99, 107)
 | 25 => (100, 112, 45)
 | 26 => (68, 102, 97)
 | 27 => (115, 45, 45)
 | 28 => (45, 102, 97)
 | 29 => (115, 45, 45)
 | 30 => (83, 45, 45)
 | 31 => (45, 102, 97)
 | 32 => (115, 45, 45)
 | 33 => (100, 115, 45)
 | 34 => (115, 115, 45)
 | 35 => (100, 115, 45)
 | 36 => (115, 115, 45)
 | 37 => (100, 115, 115)
 | 38 => (100, 115, 115)
 | 39 => (115, 45, 45)
 | 40 => (115, 45, 45)
 | 41 => (115, 45, 45)
 | 42 => (115, 45, 45)
 | 43 => (115, 115, 45)
 | 44 => (115, 45, 45)
 | 45 => (115, 45, 116)
 | 46 => (115, 45, 45)
 | 47 => (115, 115, 45)
 | 48 => (68, 115, 68)
 | 49 => (115, 45, 45)
 | 50 => (100, 120, 98)
 | 51 => (115, 98, 118)
 | 52 => (115, 45, 45)
 | _ => (0, 0, 0)
def rR : Int -> Int × Int × Int
 | 1 => (100, 105, 45)
 | 2 => (100, 45, 45)
 | 3 => (100, 114, 45)
 | 4 => (100, 114, 114)
 | 5 => (100, 114, 114)
 | 6 => (100, 114, 114)
 | 7 => (100, 114, 114)
 | 8 => (100, 114, 114)
 | 9 => (100, 114, 45)
 | 10 => (100, 114, 45)
 | 11 => (100, 114, 114)
 | 12 => (100, 114, 114)
 | 13 => (100, 114, 114)
 | 14 => (100, 114, 114)
 | 15 => (100, 114, 45)
 | 16 => (45, 45, 106)
 | 17 => (114, 45, 106)
 | 18 => (100, 103, 45)
 | 19 => (100, 114, 110)
 | 20 => (100, 114, 114)
 | 21 => (100, 108, 45)
 | 22 => (100, 114, 45)
 | 23 => (100, 114, 45)
 | 24 => (100, 49, 110)
 | 25 => (100, 110, 45)
 | 26 => (68, 102, 97)
 | 27 => (114, 45, 45)
 | 28 => (45, 102, 97)
 | 29 => (114, 45, 45)
 | 30 => (82, 45, 45)
 | 31 => (45, 102, 97)
 | 32 => (114, 45, 45)
 | 33 => (100, 114, 45)
 | 34 => (114, 114, 45)
 | 35 => (100, 114, 45)
 | 36 => (114, 114, 45)
 | 37 => (100, 114, 114)
 | 38 => (100, 114, 114)
 | 39 => (114, 45, 45)
 | 40 => (114, 45, 45)
 | 41 => (114, 45, 45)
 | 42 => (114, 45, 45)
 | 43 => (114, 114, 45)
 | 44 => (114, 45, 45)
 | 45 => (114, 45, 106)
 | 46 => (114, 45, 45)
 | 47 => (114, 114, 45)
 | 48 => (68, 114, 68)
 | 49 => (114, 45, 45)
 | 50 => (100, 115, 98)
 | 51 => (114, 98, 99)
 | 52 => (114, 45, 45)
 | _ => (0, 0, 0)
def opI (p : Pg) (f : FnD) (x : Ins) (role v : Int) : Bool :=
 if role = 100 \/ role = 115 then btw v 0 (W (f.regs - 1))
 else if role = 68 \/ role = 83 then btw v (-1) (W (f.regs - 1))
 else if role = 116 then btw v 0 (W ((f.code.length : Int) - 1)) && !decide (opAt f.code v = 51)
 else if role = 103 then btw v 0 (W ((p.gl.length : Int) - 1))
 else if role = 108 then btw v 0 (W ((p.la.length : Int) - 1))
 else if role = 102 then (btw v 0 (W ((p.fu.length : Int) - 1)) && btw x.c 0 f.regs) && decide (a4d p.fu v <= W (f.regs - x.c))
 else if role = 99 then btw v 0 (W ((p.fu.length : Int) - 1)) && decide (a4d p.fu v = 1)
 else if role = 97 then decide (0 <= v)
 else if role = 110 then btw v 0 64
 else if role = 107 then btw v 0 63 && decide (W (x.a + v) < f.regs)
 else if role = 112 then btw v 0 62 && decide (0 < f.regs)
 else if role = 120 then btw v 0 8
 else if role = 98 then decide (v = 0) || decide (v = 1)
 else if role = 118 then btw v (W (W (W (0 - x.b) - 1) + W (2 * x.b))) (W (f.regs - 1))
 else if role = 105 then true
 else decide (v = 0)
def opR (p : Pg) (f : FnD) (x : Ins) (role v : Int) : Bool :=
 if role = 100 \/ role = 114 then decide (0 <= v) && decide (v < f.regs)
 else if role = 68 \/ role = 82 then decide (-1 <= v) && decide (v < f.regs)
 else if role = 110 then decide (0 <= v) && decide (v <= 64)
 else if role = 106 then (decide (0 <= v) && decide (v < (f.code.length : Int))) && !decide (opAt f.code v = 51)
 else if role = 103 then decide (0 <= v) && decide (v < (p.gl.length : Int))
 else if role = 108 then decide (0 <= v) && decide (v < (p.la.length : Int))
 else if role = 102 then ((decide (0 <= v) && decide (v < (p.fu.length : Int))) && decide (0 <= x.c)) && decide (x.c <= W (f.regs - a4d p.fu v))
 else if role = 49 then (decide (0 <= v) && decide (v < (p.fu.length : Int))) && decide (a4d p.fu v = 1)
 else if role = 97 then decide (0 <= v)
 else if role = 115 then decide (0 <= v) && decide (v <= 8)
 else if role = 98 then decide (v = 0) || decide (v = 1)
 else if role = 99 then (decide (-1 <= v) && decide (v < f.regs)) && (decide (x.b = 0) || decide (0 <= v))
 else if role = 45 then decide (v = 0)
 else true
def a8t (p : Pg) (f : FnD) (x : Ins) : Bool :=
 (((((decide (1 <= x.op /\ x.op <= 52) && decide (0 <= x.d)) && opI p f x (rI x.op).1 x.a) && opI p f x (rI x.op).2.1 x.b) && opI p f x (rI x.op).2.2 x.c)) && (!decide (x.op = 38) || decide (x.c < W (f.regs - 1)))
def a7t (p : Pg) (f : FnD) (x : Ins) : Bool :=
 (((((decide (1 <= x.op /\ x.op <= 52) && decide (0 <= x.d)) && opR p f x (rR x.op).1 x.a) && opR p f x (rR x.op).2.1 x.b) && opR p f x (rR x.op).2.2 x.c)) &&
   (if x.op = 24 then decide (W (x.a + x.c) < f.regs) && decide (x.c < 64) else if x.op = 25 then decide (x.b < 63) && decide (0 < f.regs) else !decide (x.op = 38) || decide (W (x.c + 1) < f.regs))
def b2k (p : Pg) (f : FnD) : List Ins -> Int -> Bool
 | [], _ => true
 | x :: r, e => a8t p f x && (if x.op = 51 then !decide (W (e - 1) < 0) && b2k p f r (W (e - 1)) else if 0 < e then false else if x.op = 50 then !decide (x.b < 0) && b2k p f r x.b else !decide (e < 0) && b2k p f r e)
def b1l (p : Pg) (f : FnD) : List Ins -> Int -> Bool
 | [], _ => true
 | x :: r, e => if decide (0 < e) = decide (x.op = 51) then a7t p f x && b1l p f r (if x.op = 50 then x.b else if 0 < e then W (e - 1) else e) else false
def a8s (l : List Ins) : Bool := decide (opAt l ((l.length : Int) - 1) = 30) || decide (opAt l ((l.length : Int) - 1) = 16)
def a8y (f : FnD) : Bool := (((btw f.params 0 f.regs && decide (f.regs <= 64)) && !decide (f.code.length = 0)) && decide (f.code.length <= 1000)) && a8s f.code
def fnI (p : Pg) (f : FnD) : Bool := a8y f && b2k p f f.code 0
def fnR (p : Pg) (f : FnD) : Bool := (!decide (f.nm = []) && a8y f) && b1l p f f.code 0
def a2v (k : Int) : Bool := decide (k = 0) || decide (k = 1)
def layB (l : List Int) : Bool := decide (l.length <= 64) && l.all a2v
def uniq (l : List (List UInt8)) : Bool := decide (l.Nodup) && decide ([] ∉ l)
def a4q (p : Pg) : Bool := ((((decide (p.fu.length <= 64) && decide (p.gl.length <= 64)) && decide (p.la.length <= 32)) && (decide (0 <= p.main) && decide (p.main < (p.fu.length : Int)))) && decide (a4d p.fu p.main = 0)) && p.la.all layB
def a5v (p : Pg) : Bool := a4q p && (p.gl.all (fun g => a2v g.kind) && (p.fu.all (fnI p) && (uniq (p.fu.map FnD.nm) && uniq (p.gl.map Gb.nm))))
def a0m (p : Pg) : Bool := a4q p && ((p.gl.all (fun g => !decide (g.nm = []) && a2v g.kind) && decide ((p.gl.map Gb.nm).Nodup)) && (p.fu.all (fnR p) && decide ((p.fu.map FnD.nm).Nodup)))
theorem b0e (l : List Ins) (v : Int) (h : v.toNat < l.length) : opAt l v = (l[v.toNat]).op := by simp [opAt, A5n h]
theorem a7p (l : List FnD) (v : Int) (h : v.toNat < l.length) : a4d l v = (l[v.toNat]).params := by simp [a4d, A5n h]
theorem b5i {n : Int} (h : 1 <= n /\ n <= 52) : n = 1 \/ n = 2 \/ n = 3 \/ n = 4 \/ n = 5 \/ n = 6 \/ n = 7 \/ n = 8 \/ n = 9 \/ n = 10 \/ n = 11 \/ n = 12 \/ n = 13 \/ n = 14 \/ n = 15 \/ n = 16 \/ n = 17 \/ n = 18 \/ n = 19 \/ n = 20 \/ n = 21 \/ n = 22 \/ n = 23 \/ n = 24 \/ n = 25 \/ n = 26 \/ n = 27 \/ n = 28 \/ n = 29 \/ n = 30 \/ n = 31 \/ n = 32 \/ n = 33 \/ n = 34 \/ n = 35 \/ n = 36 \/ n = 37 \/ n = 38 \/ n = 39 \/ n = 40 \/ n = 41 \/ n = 42 \/ n = 43 \/ n = 44 \/ n = 45 \/ n = 46 \/ n = 47 \/ n = 48 \/ n = 49 \/ n = 50 \/ n = 51 \/ n = 52 := by omega
structure Good (p : Pg) (f : FnD) : Prop where
 nf : p.fu.length <= 64
 ng : p.gl.length <= 64
 nl : p.la.length <= 32
 nc : f.code.length <= 1000
 r0 : 0 <= f.regs
 r1 : f.regs <= 64
 pr : ∀ v, 0 <= a4d p.fu v /\ a4d p.fu v <= 64
theorem e4h (h : Good p f) (v : Int) : btw v 0 (W (f.regs - 1)) = (decide (0 <= v) && decide (v < f.regs)) := by
 have := h.r0; have := h.r1
 rw [W_id ya ya, btw, A2n]; simp; omega
theorem e4i (h : Good p f) (v : Int) : btw v (-1) (W (f.regs - 1)) = (decide (-1 <= v) && decide (v < f.regs)) := by
 have := h.r0; have := h.r1
 rw [W_id ya ya, btw, A2n]; simp; omega
theorem b5d (n : Nat) (h : n <= 1000) (v : Int) : btw v 0 (W ((n : Int) - 1)) = (decide (0 <= v) && decide (v < (n : Int))) := by
 rw [W_id ya ya, btw, A2n]; simp; omega
theorem e5v (h : Good p f) (x : Ins) : a8t p f x = a7t p f x := by
 by_cases ho : 1 <= x.op /\ x.op <= 52
 case neg => simp [a8t, a7t, ho]
 have hr0 := h.r0; have hr1 := h.r1
 have l1 := e4h h; have l2 := e4i h; have l3 := b5d _ h.nc; have l4 := b5d _ (A0a h.ng yb); have l5 := b5d _ (A0a h.nl yb); have l6 := b5d _ (A0a h.nf yb)
 unfold a8t a7t
 rcases b5i ho with e | e | e | e | e | e | e | e | e | e | e | e | e | e | e | e | e | e | e | e | e | e | e | e | e | e | e | e | e | e | e | e | e | e | e | e | e | e | e | e | e | e | e | e | e | e | e | e | e | e | e | e
 all_goals first
  | (simp [e, rI, rR, opI, opR, l1, l2, l3, l4, l5, l6]; done)
  | (have hp := h.pr x.b; generalize a4d p.fu x.b = q at hp; simp [e, rI, rR, opI, opR, l1, l2, l3, l4, l5, l6]; rw [A2n]; simp [btw, W, IntKind.wrap_i64] <;> omega)
  | (have hp := h.pr x.b; simp [e, rI, rR, opI, opR, l1, l2, l3, l4, l5, l6]; rw [A2n]; simp [btw]; done)
  | (have hp := h.pr x.b; simp [e, rI, rR, opI, opR, l1, l2, l3, l4, l5, l6]; simp [btw]; done)
  | (have hp := h.pr x.b; simp [e, rI, rR, opI, opR, l1, l2, l3, l4, l5, l6]; rw [A2n]; simp [btw, W, IntKind.wrap_i64]; generalize a4d p.fu x.b = q at hp ⊢; omega)
theorem d8m {x : Ins} (h : a8t p f x = true) (ho : x.op = 50) : 0 <= x.b /\ x.b <= 8 := by
 simp only [a8t, ho, rI, A5t] at h
 have := h.1.1.2
 simpa [opI, btw] using this
theorem c5z {p : Pg} {f : FnD} (h : Good p f) : ∀ (l : List Ins) (e : Int), 0 <= e -> e <= 8 -> b2k p f l e = b1l p f l e
 | [], _, _, _ => rfl
 | x :: r, e, h0, h8 => by
   have ih := c5z h r
   have hi := e5v h x
   unfold b2k b1l
   rw [<- hi]
   have w : W (e - 1) = e - 1 := W_id ya ya
   rw [w]
   by_cases h51 : x.op = 51
   . have h50 : ¬ x.op = 50 := by omega
     by_cases hp : 0 < e
     . have : ¬ e - 1 < 0 := by omega
       simp [h51, hp, this, ih (e - 1) ya ya]
     . have : e - 1 < 0 := by omega
       simp [h51, hp, this]
   . by_cases hp : 0 < e
     . simp [h51, hp]
     . have he : e = 0 := by omega
       subst he
       by_cases h50 : x.op = 50
       . cases hx : a8t p f x with
         | false => simp
         | true =>
           obtain ⟨b0, b8⟩ := d8m hx h50
           have : ¬ x.b < 0 := by omega
           simp [h50, this, ih x.b b0 b8]
       . simp [h51, h50, ih 0 ya ya]
theorem b7f (h : a8y f = true) : (0 <= f.params /\ f.params <= f.regs) /\ f.regs <= 64 /\ f.code.length <= 1000 := by
 simp only [a8y, btw, A5t, A5w] at h
 exact ⟨h.1.1.1.1, h.1.1.1.2, h.1.2⟩
theorem d9h (hp : a4q p = true) (hf : ∀ f ∈ p.fu, a8y f = true) : ∀ f ∈ p.fu, Good p f := by
 intro f hm
 simp only [a4q, A5t, A5w] at hp
 obtain ⟨⟨⟨⟨⟨h1, h2⟩, h3⟩, _⟩, _⟩, _⟩ := hp
 obtain ⟨g1, g2, g3⟩ := b7f (hf f hm)
 refine ⟨h1, h2, h3, g3, by omega, g2, fun v => ?_⟩
 unfold a4d
 split
 . rename_i y hy
   obtain ⟨k1, k2, _⟩ := b7f (hf y (A1b hy))
   omega
 . omega
theorem b4z (p : Pg) : a5v p = a0m p := by
 rw [A2n]
 unfold a5v a0m
 simp only [A5t, List.all_eq_true, uniq, A5w, fnI, fnR, A4x, decide_eq_false_iff_not]
 constructor
 . rintro ⟨hh, hg, hf, ⟨hn, hne⟩, hn2, hne2⟩
   have hG := d9h hh fun f hm => (hf f hm).1
   refine ⟨hh, ⟨fun g hm => ⟨fun e => hne2 (A1t.2 ⟨g, hm, e⟩), hg g hm⟩, hn2⟩, fun f hm => ⟨⟨fun e => hne (A1t.2 ⟨f, hm, e⟩), (hf f hm).1⟩, ?_⟩, hn⟩
   rw [<- c5z (hG f hm) _ 0 ya ya]
   exact (hf f hm).2
 . rintro ⟨hh, ⟨hg, hn2⟩, hf, hn⟩
   have hG := d9h hh fun f hm => (hf f hm).1.2
   refine ⟨hh, fun g hm => (hg g hm).2, fun f hm => ⟨(hf f hm).1.2, ?_⟩, ⟨hn, fun hm => ?_⟩, hn2, fun hm => ?_⟩
   . rw [c5z (hG f hm) _ 0 ya ya]
     exact (hf f hm).2
   . obtain ⟨f, hm, e⟩ := A1t.1 hm
     exact (hf f hm).1.1 e
   . obtain ⟨g, hm, e⟩ := A1t.1 hm
     exact (hg g hm).1 e
end Go.Gv
namespace Go.Je
open Go Go.FM Go.RowKit Go.Proofs Go.Shelf
def tzR : Ren := ⟨fun n => match n with | 29 => 42 | _ => 0, fun n => match n with | 0 => 0 | 3 => 3 | 4 => 4 | 5 => 5 | 22 => 67 | 25 => 126 | 54 => 125 | _ => 0, fun _ => 0⟩
theorem tzL : Lays7.n29 Tryz.prog tzR where
 mixed := by kernel_rfl
 f29 := by kernel_rfl
 t0 := by kernel_rfl
 a0 := fun w => by kernel_rfl
 z0 := fun w => by kernel_rfl
 v0 := fun w => by kernel_rfl
 i0 := by kernel_rfl
 t3 := by kernel_rfl
 a3 := fun w => by kernel_rfl
 z3 := fun w => by kernel_rfl
 v3 := fun w => by kernel_rfl
 i3 := by kernel_rfl
 t4 := by kernel_rfl
 a4 := fun w => by kernel_rfl
 z4 := fun w => by kernel_rfl
 v4 := fun w => by kernel_rfl
 i4 := by kernel_rfl
 t5 := by kernel_rfl
 a5 := fun w => by kernel_rfl
 z5 := fun w => by kernel_rfl
 v5 := fun w => by kernel_rfl
 i5 := by kernel_rfl
 t22 := by kernel_rfl
 a22 := fun w => by kernel_rfl
 z22 := fun w => by kernel_rfl
 v22 := fun w => by kernel_rfl
 i22 := by kernel_rfl
 t25 := by kernel_rfl
 a25 := fun w => by kernel_rfl
 z25 := fun w => by kernel_rfl
 v25 := fun w => by kernel_rfl
 i25 := by kernel_rfl
 t54 := by kernel_rfl
 a54 := fun w => by kernel_rfl
 z54 := fun w => by kernel_rfl
 g1 := by kernel_rfl
def tzV (n : Nat) : Value := .int .u8 (n : Int)
def Gl : List (Nat × List Value) := [(0, Lib.deBruijn64tab.map tzV)]
theorem g6d (x : Nat) (hx : x < 18446744073709551616) (H : Heap) : FC Tryz.prog Gl 42 [.int .u64 x] H (.int .i64 (Lib.ctz 64 x)) H := by
 refine b5w fun w F m vs hF hG hv hH => ?_
 cases hv with
 | cons _ v _ vs h1 h2 =>
 cases h2
 cases h1
 refine (Any7.bits_TrailingZeros64 tzL x hx w fun _ j hj => ?_).mono ?_
 . obtain ⟨_, _, h⟩ := hG (0, Lib.deBruijn64tab.map tzV) (by simp [Gl])
   refine h j _ ?_
   rw [A1j, A5n hj, A5m, A5n hj]
   rfl
 . rintro e w' ⟨rfl, rfl⟩
   exact ⟨_, rfl, Below.refl _ _, .int _ _⟩
noncomputable abbrev Tp := Tryz.prog
abbrev Pq := PC Tp Gl
end Go.Je
namespace Go.Je
open Go Go.FM Go.Proofs
theorem a0d : Tp.follows .mixedOrders = true := by kernel_rfl
@[simp] theorem g5u : byT Tp 98 = (some 16) /\ fldT Tp 98 0 = (some 0) /\ fldT Tp 98 1 = (some 1) := by and_intros <;> kernel_rfl
@[simp] theorem c1w : kdT Tp 3 = (some (Go.FM.Kd.int Go.IntKind.i64)) := by kernel_rfl
@[simp] theorem c1v : kdT Tp 98 = none := by kernel_rfl
@[simp] theorem c6n : ldT Tp 3 = (some none) := by kernel_rfl
@[simp] theorem f0q : a3v Tp 98 = (some ((0, 1) :: ((1, 1) :: []))) /\ slT Tp 46 = (some (98, 2)) := by and_intros <;> kernel_rfl
@[simp] theorem c1u : stT Tp 98 = (some ((Go.FM.Kd.int Go.IntKind.i64) :: ((Go.FM.Kd.int Go.IntKind.i64) :: []))) := by kernel_rfl
@[simp] theorem f8p : a2y Tp 98 = (some ((FV.int Go.IntKind.i64 0) :: ((FV.int Go.IntKind.i64 0) :: []))) := by kernel_rfl
theorem wr (n : Int) (h : -9223372036854775808 <= n) (h' : n < 9223372036854775808) : IntKind.wrap .i64 n = n := by
 rw [IntKind.wrap_i64]; omega
end Go.Je
namespace Go.Gv
open Go Go.FM
variable {b l : List Int} {code : List Ins} {f i j k nb : Nat} {fs : List FnD} {n : Ins} {o v : Int} {p : Pg} {α : Type}
theorem c3n {l : List α} (hi : i < l.length) (hj : j < l.length) (hij : j < i) (h : l[j] = l[i]) : ¬ l.Nodup := by
 intro hn
 have := A5b.mp hn j i hj hi hij
 exact this h
theorem nodup_iff {l : List α} (h : ∀ (i j : Nat) (hi : i < l.length) (hj : j < l.length), j < i -> l[j] ≠ l[i]) : l.Nodup := by
 refine A5b.mpr ?_
 intro i j hi hj hij
 exact h j i hj hi hij
theorem f1t (h : a4q p = false) : a0m p = false := by simp [a0m, h]
theorem vf_g (hi : i < p.gl.length) (h : p.gl[i].nm = [] \/ a2v p.gl[i].kind = false) : a0m p = false := by
 have : p.gl.all (fun g => !decide (g.nm = []) && a2v g.kind) = false := by
  rw [<- A2g]
  intro hh
  have := List.all_eq_true.mp hh _ (A5p hi)
  rcases h with h | h <;> simp [h] at this
 simp only [a0m, this, A3o, A3c]
theorem g6a (hi : i < p.gl.length) (hj : j < i) (h : (p.gl[j]'ya).nm = p.gl[i].nm) : a0m p = false := by
 have : ¬ (p.gl.map Gb.nm).Nodup := c3n (i := i) (j := j) (by simpa using hi) yz hj zl
 simp [a0m, this]
theorem vf_f (hi : i < p.fu.length) (h : fnR p p.fu[i] = false) : a0m p = false := by
 have : p.fu.all (fnR p) = false := by
  rw [<- A2g]
  intro hh
  have := List.all_eq_true.mp hh _ (A5p hi)
  simp [h] at this
 simp [a0m, this]
theorem g6b (hi : i < p.fu.length) (hj : j < i) (h : (p.fu[j]'ya).nm = p.fu[i].nm) : a0m p = false := by
 have : ¬ (p.fu.map FnD.nm).Nodup := c3n (i := i) (j := j) (by simpa using hi) yz hj zl
 simp [a0m, this]
def gOk (p : Pg) (i : Nat) : Prop := (∀ k (hk : k < p.gl.length), k < i -> ¬ p.gl[k].nm = [] /\ a2v p.gl[k].kind = true) /\ ∀ k j (hk : k < p.gl.length) (hj : j < p.gl.length), k < i -> j < k -> p.gl[j].nm ≠ p.gl[k].nm
def fOk (p : Pg) (i : Nat) : Prop := (∀ k (hk : k < p.fu.length), k < i -> fnR p p.fu[k] = true) /\ ∀ k j (hk : k < p.fu.length) (hj : j < p.fu.length), k < i -> j < k -> p.fu[j].nm ≠ p.fu[k].nm
def gDi (p : Pg) (i n : Nat) : Prop := ∀ j (hi : i < p.gl.length) (hj : j < p.gl.length), j < n -> p.gl[j].nm ≠ p.gl[i].nm
def fDi (p : Pg) (i n : Nat) : Prop := ∀ j (hi : i < p.fu.length) (hj : j < p.fu.length), j < n -> p.fu[j].nm ≠ p.fu[i].nm
theorem g8m (p : Pg) : gOk p 0 := ⟨fun _ _ h => absurd h ya, fun _ _ _ _ h => absurd h ya⟩
theorem g8w (p : Pg) : fOk p 0 := ⟨fun _ _ h => absurd h ya, fun _ _ _ _ h => absurd h ya⟩
theorem g8o (p : Pg) (i : Nat) : gDi p i 0 := fun _ _ _ h => absurd h ya
theorem g8y (p : Pg) (i : Nat) : fDi p i 0 := fun _ _ _ h => absurd h ya
theorem g8n {n : Nat} (h : gDi p i n) (hi : i < p.gl.length) (hn : n < p.gl.length) (e : p.gl[n].nm ≠ p.gl[i].nm) : gDi p i (n + 1) := by
 intro j hi' hj hjn
 by_cases hj' : j = n
 . subst hj'; exact e
 . exact h j hi' hj ya
theorem g8x {n : Nat} (h : fDi p i n) (hi : i < p.fu.length) (hn : n < p.fu.length) (e : p.fu[n].nm ≠ p.fu[i].nm) : fDi p i (n + 1) := by
 intro j hi' hj hjn
 by_cases hj' : j = n
 . subst hj'; exact e
 . exact h j hi' hj ya
theorem g8l (h : gOk p i) (hi : i < p.gl.length) (h1 : ¬ p.gl[i].nm = []) (h2 : a2v p.gl[i].kind = true) (hd : gDi p i i) : gOk p (i + 1) := by
 refine ⟨?_, ?_⟩
 . intro k hk hki
   by_cases e : k = i
   . subst e; exact ⟨h1, h2⟩
   . exact h.1 k hk ya
 . intro k j hk hj hki hjk
   by_cases e : k = i
   . subst e; exact hd j hi hj hjk
   . exact h.2 k j hk hj ya hjk
theorem g8v (h : fOk p i) (hi : i < p.fu.length) (h1 : fnR p p.fu[i] = true) (hd : fDi p i i) : fOk p (i + 1) := by
 refine ⟨?_, ?_⟩
 . intro k hk hki
   by_cases e : k = i
   . subst e; exact h1
   . exact h.1 k hk ya
 . intro k j hk hj hki hjk
   by_cases e : k = i
   . subst e; exact hd j hi hj hjk
   . exact h.2 k j hk hj ya hjk
theorem vt (h : a4q p = true) (hg : gOk p p.gl.length) (hf : fOk p p.fu.length) : a0m p = true := by
 have a1 : p.gl.all (fun g => !decide (g.nm = []) && a2v g.kind) = true := by
  rw [List.all_eq_true]
  intro g hm
  obtain ⟨k, hk, rfl⟩ := A0g hm
  simp [hg.1 k hk hk]
 have a2 : (p.gl.map Gb.nm).Nodup := nodup_iff (by
  intro i j hi hj hij
  simp only [A1l] at hi hj
  simpa using hg.2 i j hi hj hi hij)
 have a3 : p.fu.all (fnR p) = true := by
  rw [List.all_eq_true]
  intro g hm
  obtain ⟨k, hk, rfl⟩ := A0g hm
  exact hf.1 k hk hk
 have a4 : (p.fu.map FnD.nm).Nodup := nodup_iff (by
  intro i j hi hj hij
  simp only [A1l] at hi hj
  simpa using hf.2 i j hi hj hi hij)
 simp only [a0m, h, a1, a2, a3, a4, decide_true, Bool.and_true]
def layR (l : List (List Int)) : Bool := l.all layB && decide (l.length <= 32)
theorem d3d (p : Pg) : ((64 : Int) < (p.fu.length : Int) /\ a4q p = false) \/ (¬ (64 : Int) < (p.fu.length : Int) /\ (64 : Int) < (p.gl.length : Int) /\ a4q p = false) \/
 (¬ (64 : Int) < (p.fu.length : Int) /\ ¬ (64 : Int) < (p.gl.length : Int) /\ layR p.la = false /\ a4q p = false) \/
 (¬ (64 : Int) < (p.fu.length : Int) /\ ¬ (64 : Int) < (p.gl.length : Int) /\ layR p.la = true /\ p.main < 0 /\ a4q p = false) \/
 (¬ (64 : Int) < (p.fu.length : Int) /\ ¬ (64 : Int) < (p.gl.length : Int) /\ layR p.la = true /\ ¬ p.main < 0 /\ (p.fu.length : Int) <= p.main /\ a4q p = false) \/
 (¬ (64 : Int) < (p.fu.length : Int) /\ ¬ (64 : Int) < (p.gl.length : Int) /\ layR p.la = true /\ ¬ p.main < 0 /\ ¬ (p.fu.length : Int) <= p.main /\
  ∃ z : FnD, 0 <= p.main /\ p.fu[p.main.toNat]? = some z /\ ¬ z.params = 0 /\ a4q p = false) \/
 (¬ (64 : Int) < (p.fu.length : Int) /\ ¬ (64 : Int) < (p.gl.length : Int) /\ layR p.la = true /\ ¬ p.main < 0 /\ ¬ (p.fu.length : Int) <= p.main /\
  ∃ z : FnD, 0 <= p.main /\ p.fu[p.main.toNat]? = some z /\ z.params = 0 /\ a4q p = true) := by
 by_cases h1 : p.fu.length <= 64
 case neg => exact .inl ⟨by omega, by simp [a4q]; omega⟩
 have h1' : ¬ (64 : Int) < (p.fu.length : Int) := by omega
 refine .inr ?_
 by_cases h2 : p.gl.length <= 64
 case neg => exact .inl ⟨h1', by omega, by simp [a4q]; omega⟩
 have h2' : ¬ (64 : Int) < (p.gl.length : Int) := by omega
 refine .inr ?_
 cases h3 : layR p.la with
 | false => exact .inl ⟨h1', h2', rfl, by
  simp only [layR, Bool.and_eq_false_iff] at h3
  rcases h3 with h3 | h3 <;> simp only [a4q, h3, A3o, A3c]⟩
 | true =>
   refine .inr ?_
   simp only [layR, A5t] at h3
   by_cases h4 : p.main < 0
   . exact .inl ⟨h1', h2', rfl, h4, by
      have : decide (0 <= p.main) = false := by simp; omega
      simp only [a4q, this, A3o, A3c]⟩
   refine .inr ?_
   by_cases h5 : (p.fu.length : Int) <= p.main
   . exact .inl ⟨h1', h2', rfl, h4, h5, by
      have : decide (p.main < (p.fu.length : Int)) = false := by simp; omega
      simp only [a4q, this, A3o, A3c]⟩
   refine .inr ?_
   have hm : 0 <= p.main := by omega
   have hi : p.main.toNat < p.fu.length := by omega
   have hp : a4d p.fu p.main = (p.fu[p.main.toNat]).params := a7p _ _ hi
   by_cases h6 : (p.fu[p.main.toNat]).params = 0
   . refine .inr ⟨h1', h2', rfl, h4, h5, _, hm, A5n hi, h6, ?_⟩
     have e1 : decide (0 <= p.main) = true := by simp; omega
     have e2 : decide (p.main < (p.fu.length : Int)) = true := by simp; omega
     have e3 : decide (a4d p.fu p.main = 0) = true := by rw [hp]; simp [h6]
     simp only [a4q, e1, e2, e3, h3.1, h3.2, h1, h2, decide_true, Bool.and_true]
   . refine .inl ⟨h1', h2', rfl, h4, h5, _, hm, A5n hi, h6, ?_⟩
     have e3 : decide (a4d p.fu p.main = 0) = false := by rw [hp]; simp [h6]
     simp only [a4q, e3, A3o, A3c]
theorem d0v (a b : List UInt8) : ((a == b) = true /\ a = b) \/ ((a == b) = false /\ ¬ a = b) := by
 by_cases h : a = b
 . left; simp [h]
 . right; simp [h]
theorem e6k (k : Int) : (k = 0 /\ a2v k = true) \/ (¬ k = 0 /\ k = 1 /\ a2v k = true) \/ (¬ k = 0 /\ ¬ k = 1 /\ a2v k = false) := by
 by_cases h : k = 0
 . left; simp [h, a2v]
 . by_cases h' : k = 1
   . right; left; simp [h', a2v]
   . right; right; simp [h, h', a2v]
theorem c2l (l : List α) (q : α -> Bool) (h : i < l.length) : (l.drop i).all q = (q l[i] && (l.drop (i + 1)).all q) := by
 rw [A1r h, A3i]
def vI3 (p : Pg) : Bool := uniq (p.fu.map FnD.nm) && uniq (p.gl.map Gb.nm)
def vI2 (p : Pg) (i : Nat) : Bool := (p.fu.drop i).all (fnI p) && vI3 p
def vI1 (p : Pg) (i : Nat) : Bool := (p.gl.drop i).all (fun g => a2v g.kind) && vI2 p 0
def vI0 (p : Pg) (i : Nat) : Bool := (p.la.drop i).all layB && vI1 p 0
theorem f9a (h : i < p.la.length) : vI0 p i = (layB p.la[i] && vI0 p (i + 1)) := by
 unfold vI0; rw [c2l _ _ h, Bool.and_assoc]
theorem f8z (h : i < p.gl.length) : vI1 p i = (a2v p.gl[i].kind && vI1 p (i + 1)) := by
 unfold vI1; rw [c2l _ _ h, Bool.and_assoc]
theorem f8y (h : i < p.fu.length) : vI2 p i = (fnI p p.fu[i] && vI2 p (i + 1)) := by
 unfold vI2; rw [c2l _ _ h, Bool.and_assoc]
theorem f1w (p : Pg) : vI0 p p.la.length = vI1 p 0 := by simp [vI0]
theorem f1v (p : Pg) : vI1 p p.gl.length = vI2 p 0 := by simp [vI1]
theorem f1u (p : Pg) : vI2 p p.fu.length = vI3 p := by simp [vI2]
theorem d4f (p : Pg) : vI3 p = (uniq ((p.fu.map FnD.name).map (·.data.toList)) && uniq ((p.gl.map Gb.name).map (·.data.toList))) := by
 simp [vI3, List.map_map]; rfl
theorem c9v (h : (64 : Int) < (l.length : Int)) : layB l = false := by
 have : ¬ l.length <= 64 := by omega
 simp [layB, this]
theorem d8f (h : ¬ (64 : Int) < (l.length : Int)) : layB l = l.all a2v := by
 have : l.length <= 64 := by omega
 simp [layB, this]
theorem c6g (p : Pg) : ((64 : Int) < (p.fu.length : Int) /\ a5v p = false) \/ (¬ (64 : Int) < (p.fu.length : Int) /\ (64 : Int) < (p.gl.length : Int) /\ a5v p = false) \/
 (¬ (64 : Int) < (p.fu.length : Int) /\ ¬ (64 : Int) < (p.gl.length : Int) /\ (32 : Int) < (p.la.length : Int) /\ a5v p = false) \/
 (¬ (64 : Int) < (p.fu.length : Int) /\ ¬ (64 : Int) < (p.gl.length : Int) /\ ¬ (32 : Int) < (p.la.length : Int) /\ ¬ (0 <= p.main /\ p.main < (p.fu.length : Int)) /\ a5v p = false) \/
 (¬ (64 : Int) < (p.fu.length : Int) /\ ¬ (64 : Int) < (p.gl.length : Int) /\ ¬ (32 : Int) < (p.la.length : Int) /\ (0 <= p.main /\ p.main < (p.fu.length : Int)) /\
  ∃ hz : p.main.toNat < p.fu.length, ¬ (p.fu[p.main.toNat]).params = 0 /\ a5v p = false) \/
 (¬ (64 : Int) < (p.fu.length : Int) /\ ¬ (64 : Int) < (p.gl.length : Int) /\ ¬ (32 : Int) < (p.la.length : Int) /\ (0 <= p.main /\ p.main < (p.fu.length : Int)) /\
  ∃ hz : p.main.toNat < p.fu.length, (p.fu[p.main.toNat]).params = 0 /\ vI0 p 0 = a5v p) := by
 have hf : a4q p = false -> a5v p = false := fun h => by simp [a5v, h]
 by_cases h1 : p.fu.length <= 64
 case neg => exact .inl ⟨by omega, hf (by simp [a4q]; omega)⟩
 have h1' : ¬ (64 : Int) < (p.fu.length : Int) := by omega
 refine .inr ?_
 by_cases h2 : p.gl.length <= 64
 case neg => exact .inl ⟨h1', by omega, hf (by simp [a4q]; omega)⟩
 have h2' : ¬ (64 : Int) < (p.gl.length : Int) := by omega
 refine .inr ?_
 by_cases h3 : p.la.length <= 32
 case neg => exact .inl ⟨h1', h2', by omega, hf (by simp [a4q]; omega)⟩
 have h3' : ¬ (32 : Int) < (p.la.length : Int) := by omega
 refine .inr ?_
 by_cases h4 : 0 <= p.main /\ p.main < (p.fu.length : Int)
 case neg =>
  refine .inl ⟨h1', h2', h3', h4, hf ?_⟩
  have : (decide (0 <= p.main) && decide (p.main < (p.fu.length : Int))) = false := by
   rw [<- A2g]; intro hh; simp at hh; omega
  simp only [a4q, this, A3o, A3c]
 refine .inr ?_
 have hi : p.main.toNat < p.fu.length := by omega
 have hp : a4d p.fu p.main = (p.fu[p.main.toNat]).params := a7p _ _ hi
 by_cases h6 : (p.fu[p.main.toNat]).params = 0
 . refine .inr ⟨h1', h2', h3', h4, hi, h6, ?_⟩
   have e1 : decide (0 <= p.main) = true := by simp; omega
   have e2 : decide (p.main < (p.fu.length : Int)) = true := by simp; omega
   have e3 : decide (a4d p.fu p.main = 0) = true := by rw [hp]; simp [h6]
   simp only [a5v, a4q, e1, e2, e3, h1, h2, h3, decide_true, Bool.and_true, A4a, vI0, vI1, vI2, vI3, List.drop_zero]
 . refine .inl ⟨h1', h2', h3', h4, hi, h6, hf ?_⟩
   have e3 : decide (a4d p.fu p.main = 0) = false := by rw [hp]; simp [h6]
   simp only [a4q, e3, A3o, A3c]
def h0d (n : Int) : Bool := decide (n = 33) || decide (n = 34)
def accC (f : Nat) (code : List Ins) (j : Nat) : List (Int × Int) := ((List.range j).filter (fun (k : Nat) => h0d (opAt code (k : Int)))).map (fun (k : Nat) => ((f : Int), (k : Int)))
def accP (fs : List FnD) : Nat -> List (Int × Int)
 | 0 => []
 | i + 1 => accP fs i ++ (match fs[i]? with | some y => accC i y.code y.code.length | none => [])
theorem d7h (h : j < code.length) : opAt code (j : Int) = code[j].op := by
 rw [b0e _ _ zl]; rfl
def sites (b : Bool) (p : Pg) : List (Int × Int) := if b then accP p.fu p.fu.length else []
def mx0 (n : Int) : Int := if n > 0 then n else 0
def grN (p : Pg) : Nat -> Int
 | 0 => W ((p.gl.length : Int) + (p.la.length : Int))
 | i + 1 => match p.fu[i]? with
   | some y => W (grN p i + W (W (1 + (y.code.length : Int)) + W ((mx0 y.regs).tdiv 4)))
   | none => grN p i
theorem g8f (h : i < p.fu.length) : grN p (i + 1) = W (grN p i + W (W (1 + (p.fu[i].code.length : Int)) + W ((mx0 p.fu[i].regs).tdiv 4))) := by
 rw [grN, A5n h]
def alO (n : Int) : Bool := decide (n = 21) || decide (n = 22) || decide (n = 23) || decide (n = 24)
theorem c4v (n : Int) : (n = 21 /\ alO n = true) \/ (¬ n = 21 /\ n = 22 /\ alO n = true) \/ (¬ n = 21 /\ ¬ n = 22 /\ n = 23 /\ alO n = true) \/ (¬ n = 21 /\ ¬ n = 22 /\ ¬ n = 23 /\ n = 24 /\ alO n = true) \/ (¬ n = 21 /\ ¬ n = 22 /\ ¬ n = 23 /\ ¬ n = 24 /\ alO n = false) := by
 by_cases h1 : n = 21
 . left; simp [h1, alO]
 by_cases h2 : n = 22
 . right; left; simp [h2, alO]
 by_cases h3 : n = 23
 . right; right; left; simp [h3, alO]
 by_cases h4 : n = 24
 . right; right; right; left; simp [h4, alO]
 . right; right; right; right; simp [h1, h2, h3, h4, alO]
def hasI (l : List Int) (n : Int) : Bool := decide (n ∈ l)
def noI (l : List Int) (n : Int) (i : Nat) : Prop := ∀ j (hj : j < l.length), j < i -> l[j] ≠ n
theorem g7r (l : List Int) (n : Int) : noI l n 0 := fun _ _ h => absurd h ya
theorem g7q {n : Int} (h : noI l n i) (hi : i < l.length) (e : ¬ l[i] = n) : noI l n (i + 1) := fun j hj hji => by
 by_cases e' : j = i
 . subst e'; exact e
 . exact h j hj ya
theorem d9c {n : Int} (hi : i < l.length) (e : l[i] = n) : hasI l n = true := by
 simp only [hasI, A5w, <- e]; exact A5p hi
theorem d9b {n : Int} (h : noI l n l.length) : hasI l n = false := by
 simp only [hasI, decide_eq_false_iff_not]
 intro hm
 obtain ⟨j, hj, e⟩ := A0g hm
 exact h j hj hj e
def eqTo (a b : List Int) (i : Nat) : Prop := ∀ j (hj : j < a.length) (hj' : j < b.length), j < i -> a[j] = b[j]
theorem g3p (a b : List Int) : eqTo a b 0 := fun _ _ _ h => absurd h ya
theorem g3o {a : List Int} (h : eqTo a b i) (hi : i < a.length) (hi' : i < b.length) (e : a[i] = b[i]) : eqTo a b (i + 1) := fun j hj hj' hji => by
 by_cases e' : j = i
 . subst e'; exact e
 . exact h j hj hj' ya
theorem e7h {a : List Int} (hl : a.length = b.length) (h : eqTo a b a.length) : a = b := by
 apply A0e hl
 intro i h1 h2
 exact h i h1 h2 h1
theorem g7t {a : List Int} (hi : i < a.length) (hi' : i < b.length) (e : ¬ a[i] = b[i]) : ¬ a = b := fun h => by subst h; exact e rfl
def wk : List Int -> Int -> Nat
 | [], _ => 0
 | a :: r, n => if a < n then wk r n + 1 else 0
theorem f8w (l : List Int) (n : Int) : wk l n <= l.length := by
 induction l with
 | nil => simp [wk]
 | cons a r ih => simp only [wk, A1a]; split <;> omega
theorem f8v {n : Int} : ∀ j (hj : j < l.length), j < wk l n -> l[j] < n := by
 induction l with
 | nil => intro j hj; simp at hj
 | cons a r ih =>
   intro j hj hjw
   simp only [wk] at hjw
   split at hjw
   . cases j with
     | zero => simpa
     | succ j => simpa using ih j (by simpa using hj) ya
   . omega
theorem f8x {n : Int} (h : wk l n < l.length) : ¬ l[wk l n] < n := by
 induction l with
 | nil => simp at h
 | cons a r ih =>
   by_cases e : a < n
   . have hw : wk (a :: r) n = wk r n + 1 := by simp [wk, e]
     simp only [hw, A1a, A4v] at h ⊢
     exact ih ya
   . have hw : wk (a :: r) n = 0 := by simp [wk, e]
     simp only [hw, A4u]; exact e
theorem f1p {n : Int} (hi : i <= l.length) (h1 : ∀ j (hj : j < l.length), j < i -> l[j] < n) (h2 : ∀ h : i < l.length, ¬ l[i] < n) : wk l n = i := by
 have a1 := f8w l n
 rcases A3e (wk l n) i with h | h | h
 . exact absurd (h1 _ ya h) (f8x ya)
 . exact h
 . exact absurd (f8v i ya h) (h2 ya)
def ltTo (l : List Int) (n : Int) (i : Nat) : Prop := ∀ j (hj : j < l.length), j < i -> l[j] < n
theorem g1v (l : List Int) (n : Int) : ltTo l n 0 := fun _ _ h => absurd h ya
theorem g1u {n : Int} (h : ltTo l n i) (hi : i < l.length) (e : l[i] < n) : ltTo l n (i + 1) := fun j hj hji => by
 by_cases e' : j = i
 . subst e'; exact e
 . exact h j hj ya
def a0r (l : List Int) (n : Int) : List Int := if l[wk l n]? = some n then l else l.take (wk l n) ++ n :: l.drop (wk l n)
theorem e2x {n : Int} (h : ltTo l n l.length) : a0r l n = l ++ [n] := by
 have : wk l n = l.length := f1p (A5s _) h (fun h => absurd h ya)
 simp [a0r, this]
theorem f1q {n : Int} (hi : i < l.length) (h : ltTo l n i) (e : l[i] = n) : a0r l n = l := by
 have : wk l n = i := f1p ya h (fun _ => by omega)
 simp [a0r, this, hi, e]
theorem e2w {n : Int} (hi : i < l.length) (h : ltTo l n i) (h1 : ¬ l[i] < n) (h2 : ¬ l[i] = n) : a0r l n = l.take i ++ n :: l.drop i := by
 have : wk l n = i := f1p ya h (fun _ => h1)
 simp [a0r, this, hi, h2]
def inc (l : List Int) : Prop := l.Pairwise (· < ·)
theorem c0s {n x : Int} : x ∈ a0r l n ↔ x ∈ l \/ x = n := by
 unfold a0r
 split
 . rename_i h
   constructor
   . exact .inl
   . rintro (h' | rfl)
     . exact h'
     . exact A1b h
 . have e : x ∈ l ↔ x ∈ l.take (wk l n) \/ x ∈ l.drop (wk l n) := by rw [<- A0o, A2z]
   rw [A0o, A0m, e]
   simp only [or_assoc, or_comm (a := x = n)]
theorem d0c {n : Int} (h : inc l) : inc (a0r l n) := by
 unfold a0r
 split
 . exact h
 . rename_i hne
   have hd := h
   rw [<- A2z (wk l n) l] at hd
   unfold inc at hd ⊢
   rw [List.pairwise_append] at hd ⊢
   obtain ⟨h1, h2, h3⟩ := hd
   have hge : ∀ y ∈ l.drop (wk l n), n < y := by
    intro y hy
    by_cases hw : wk l n < l.length
    . have h4 := f8x hw
      have h5 : l[wk l n] ≠ n := fun e => hne (by rw [A5n hw, e])
      have h6 : l.drop (wk l n) = l[wk l n] :: l.drop (wk l n + 1) := A1r hw
      rw [h6] at hy h2
      rcases A0m.1 hy with rfl | hy
      . omega
      . have := (A3d.1 h2).1 y hy
        omega
    . rw [List.drop_of_length_le ya] at hy
      cases hy
   have hlt : ∀ y ∈ l.take (wk l n), y < n := by
    intro y hy
    obtain ⟨j, hj, rfl⟩ := A0g hy
    rw [A0j] at hj
    rw [List.getElem_take]
    exact f8v j ya ya
   refine ⟨h1, A3d.2 ⟨hge, h2⟩, ?_⟩
   intro x hx y hy
   rcases A0m.1 hy with rfl | hy
   . exact hlt x hx
   . exact h3 x hx y hy
theorem c1e {a : List Int} (ha : inc a) (hb : inc b) (h : ∀ x, x ∈ a ↔ x ∈ b) : a = b := by
 induction a generalizing b with
 | nil =>
   cases b with
   | nil => rfl
   | cons y b => exact absurd ((h y).2 yd) yd
 | cons x a ih =>
   cases b with
   | nil => exact absurd ((h x).1 yd) yd
   | cons y b =>
     have hxa := A3d.1 ha
     have hyb := A3d.1 hb
     have exy : x = y := by
      have h1 := (h x).1 yd
      have h2 := (h y).2 yd
      rcases A0m.1 h1 with e | h1
      . exact e
      . rcases A0m.1 h2 with e | h2
        . exact e.symm
        . have := hyb.1 x h1
          have := hxa.1 y h2
          omega
     subst exy
     congr 1
     refine ih hxa.2 hyb.2 fun z => ?_
     constructor
     . intro hz
       rcases A0m.1 ((h z).1 (by simp [hz])) with rfl | h'
       . exact absurd (hxa.1 z hz) ya
       . exact h'
     . intro hz
       rcases A0m.1 ((h z).2 (by simp [hz])) with rfl | h'
       . exact absurd (hyb.1 z hz) ya
       . exact h'
def a1s (a b : List Int) : List Int := b.foldl a0r a
theorem b8u (a : List Int) : a1s a [] = a := rfl
theorem b6a {a : List Int} (h : i < b.length) : a1s a (b.take (i + 1)) = a0r (a1s a (b.take i)) b[i] := by
 unfold a1s
 rw [A0y, A5n h, A0z]; rfl
theorem a3x {a : List Int} {x : Int} : x ∈ a1s a b ↔ x ∈ a \/ x ∈ b := by
 induction b generalizing a with
 | nil => simp [a1s]
 | cons y b ih =>
   show x ∈ a1s (a0r a y) b ↔ _
   rw [ih, c0s, A0m, or_assoc]
theorem b2m {a : List Int} (h : inc a) : inc (a1s a b) := by
 induction b generalizing a with
 | nil => exact h
 | cons y b ih => exact ih (d0c h)
theorem c7t {a : List Int} (ha : inc a) (h : ∀ x ∈ b, x ∈ a) : a1s a b = a :=
 c1e (b2m ha) ha fun x => by rw [a3x]; exact ⟨fun h' => h'.elim id (h x), .inl⟩
theorem b4w (l : List Int) (n : Int) : (a0r l n).length <= l.length + 1 := by
 unfold a0r
 split
 . omega
 . simp only [A0b, A0j, A1a, A1y]; have := f8w l n; omega
theorem b3n {n : Nat} (h : inc l) (hb : ∀ x ∈ l, 0 <= x /\ x < (n : Int)) : l.length <= n := by
 have key : ∀ (l : List Int) (lo : Int), inc l -> (∀ x ∈ l, lo <= x /\ x < (n : Int)) -> lo <= n -> lo + l.length <= (n : Int) := by
  intro l
  induction l with
  | nil => intro lo _ _ h; simpa using h
  | cons a r ih =>
    intro lo hi hb _
    have h1 := A3d.1 hi
    have ha := hb a yd
    have := ih (a + 1) h1.2 (fun x hx => ⟨by have := h1.1 x hx; omega, (hb x wo).2⟩) ya
    simp only [A1a]; omega
 have := key l 0 h hb ya
 omega
structure Pts where
 sites : List (Int × Int)
 regs : List (List (List Int))
 cells : List (List Int)
variable {S : Pts -> List Int} {Y x y z : Pts} {g : Pts -> α -> Pts}
def rg (x : Pts) (f : Nat) (a : Int) : List Int := (x.regs.getD f []).getD a.toNat []
def cl (x : Pts) (o : Int) : List Int := x.cells.getD o.toNat []
def setR (x : Pts) (f : Nat) (a : Int) (s : List Int) : Pts := { x with regs := x.regs.set f ((x.regs.getD f []).set a.toNat s) }
def setC (x : Pts) (o : Int) (s : List Int) : Pts := { x with cells := x.cells.set o.toNat s }
def addR (x : Pts) (f : Nat) (a : Int) (s : List Int) : Pts := setR x f a (a1s (rg x f a) s)
def addC (x : Pts) (o : Int) (s : List Int) : Pts := setC x o (a1s (cl x o) s)
def sitC (f : Nat) (code : List Ins) (j : Nat) : List (Int × Int) := ((List.range j).filter (fun (k : Nat) => alO (opAt code (k : Int)))).map (fun (k : Nat) => ((f : Int), (k : Int)))
def sitP (fs : List FnD) : Nat -> List (Int × Int)
 | 0 => [(0, 0)]
 | i + 1 => sitP fs i ++ (match fs[i]? with | some y => sitC i y.code y.code.length | none => [])
def sit2 (fs : List FnD) (i j : Nat) : List (Int × Int) := sitP fs i ++ (match fs[i]? with | some y => sitC i y.code j | none => [])
def a0a (p : Pg) : List (Int × Int) := sitP p.fu p.fu.length
theorem f9x (f : Nat) (code : List Ins) : sitC f code 0 = [] := rfl
theorem e3z (h : j < code.length) (ha : alO code[j].op = true) : sitC f code (j + 1) = sitC f code j ++ [((f : Int), (j : Int))] := by
 unfold sitC
 rw [A1p, A5x, A1s]
 simp [d7h h, ha]
theorem f3f (h : j < code.length) (ha : alO code[j].op = false) : sitC f code (j + 1) = sitC f code j := by
 unfold sitC
 rw [A1p, A5x, A1s]
 simp [d7h h, ha]
theorem c8k (f : Nat) (code : List Ins) (j : Nat) : (sitC f code j).length <= j := by
 unfold sitC
 rw [A1l]
 exact A0a (A3y _ _) yd
theorem f9w (fs : List FnD) : sitP fs 0 = [(0, 0)] := rfl
theorem c8i (h : i < fs.length) : sitP fs (i + 1) = sitP fs i ++ sitC i fs[i].code fs[i].code.length := by
 rw [sitP, A5n h]
theorem c0f {fs : List FnD} {B : Nat} (hb : ∀ x ∈ fs, x.code.length <= B) : ∀ i, i <= fs.length -> (sitP fs i).length <= 1 + i * B
 | 0, _ => by simp [sitP]
 | i + 1, h => by
   have ih := c0f hb i ya
   rw [c8i ya, A0b]
   have h1 := c8k i fs[i].code fs[i].code.length
   have h2 := hb _ (A5p (show i < fs.length by omega))
   have e : (i + 1) * B = i * B + B := by rw [A1d, A3b]
   omega
theorem c8m (fs : List FnD) (i : Nat) : sit2 fs i 0 = sitP fs i := by
 unfold sit2; cases fs[i]? <;> simp [f9x]
theorem e4b (hi : i < fs.length) (h : j < fs[i].code.length) (ha : alO fs[i].code[j].op = true) : sit2 fs i (j + 1) = sit2 fs i j ++ [((i : Int), (j : Int))] := by
 simp only [sit2, A5n hi, e3z h ha, A3g]
theorem f3g (hi : i < fs.length) (h : j < fs[i].code.length) (ha : alO fs[i].code[j].op = false) : sit2 fs i (j + 1) = sit2 fs i j := by
 simp only [sit2, A5n hi, f3f h ha]
theorem c8l (hi : i < fs.length) : sitP fs (i + 1) = sit2 fs i fs[i].code.length := by
 rw [c8i hi]; simp only [sit2, A5n hi]
theorem e4d {B : Nat} (hb : ∀ x ∈ fs, x.code.length <= B) (hi : i < fs.length) (hj : j <= fs[i].code.length) : (sit2 fs i j).length <= 1 + i * B + j := by
 have := c0f hb i ya
 have := c8k i fs[i].code j
 simp only [sit2, A5n hi, A0b]
 omega
theorem e4c (fs : List FnD) (i j : Nat) : 0 < (sit2 fs i j).length := by
 have h : ∀ i, 0 < (sitP fs i).length := by
  intro i
  induction i with
  | zero => simp [sitP]
  | succ i ih => simp only [sitP, A0b]; omega
 have := h i
 simp only [sit2, A0b]; omega
theorem c8j (fs : List FnD) (i : Nat) : 0 < (sitP fs i).length := by rw [<- c8m]; exact e4c fs i 0
def objR (l : List (Int × Int)) (s : Int × Int) : Nat := match (l.drop 1).findIdx? (fun y => decide (y = s)) with
 | some k => k + 1
 | none => 0
def noO (l : List (Int × Int)) (s : Int × Int) (i : Nat) : Prop := ∀ k (hk : k < l.length), 1 <= k -> k < i -> l[k] ≠ s
theorem g7p (l : List (Int × Int)) (s : Int × Int) : noO l s 1 := fun _ _ _ h => absurd h ya
theorem g7o {l : List (Int × Int)} {s : Int × Int} (h : noO l s i) (hi : i < l.length) (e : l[i] ≠ s) : noO l s (i + 1) := fun k hk h1 h2 => by
 by_cases e' : k = i
 . subst e'; exact e
 . exact h k hk h1 ya
theorem c9g {l : List (Int × Int)} {s : Int × Int} (h1 : 1 <= i) (hi : i < l.length) (h : noO l s i) (e : l[i] = s) : objR l s = i := by
 have : (l.drop 1).findIdx? (fun y => decide (y = s)) = some (i - 1) := by
  rw [List.findIdx?_eq_some_iff_getElem]
  refine ⟨by rw [A1y]; omega, ?_, ?_⟩
  . simp only [A4b, A5w]
    have : 1 + (i - 1) = i := by omega
    simp only [this, e]
  . intro j hj
    simp only [A4b, A5w]
    have := h (1 + j) ya ya ya
    simpa using this
 simp only [objR, this]; omega
theorem f4m {l : List (Int × Int)} {s : Int × Int} (h : noO l s l.length) : objR l s = 0 := by
 have : (l.drop 1).findIdx? (fun y => decide (y = s)) = none := by
  rw [List.findIdx?_eq_none_iff]
  intro x hx
  obtain ⟨j, hj, rfl⟩ := A0g hx
  rw [A1y] at hj
  have := h (1 + j) ya ya ya
  simp only [A4b, decide_eq_false_iff_not]; exact this
 simp only [objR, this]
theorem f4n {l : List (Int × Int)} {s : Int × Int} (hl : 0 < l.length) : objR l s < l.length := by
 unfold objR
 split
 . rename_i k hk
   have := List.findIdx?_eq_some_iff_getElem.1 hk
   obtain ⟨h, _⟩ := this
   rw [A1y] at h; omega
 . exact hl
open Classical in
noncomputable def wrR (p : Pg) (x : Pts) (o : Int) : Bool := decide (∃ i, ∃ hi : i < p.fu.length, ∃ n ∈ p.fu[i].code, ((n.op = 34 \/ n.op = 36) /\ o ∈ rg x i n.a) \/ ((n.op = 37 \/ n.op = 38) /\ o ∈ rg x i n.b))
def ins0 : Ins := ⟨0, 0, 0, 0, 0⟩
def b4r (p : Pg) (s : Int × Int) : Ins := match p.fu[s.1.toNat]? with
 | some f => f.code.getD s.2.toNat ins0
 | none => ins0
def oneP (fs : List FnD) (i : Nat) : List Int := ((List.range i).filter (fun (k : Nat) => decide (a4d fs (k : Int) = 1))).map (fun (k : Nat) => (k : Int))
noncomputable def a2q (p : Pg) (x : Pts) (o : Int) : List Int :=
 let n := if 0 < o then b4r p (x.sites.getD o.toNat (0, 0)) else ins0
 if n.op = 23 then [] else if n.op = 24 /\ wrR p x o = false then [n.b] else oneP p.fu p.fu.length
def a6b (x : Pts) (l : List Int) : List Int := l.foldl (fun out o => a1s out (cl x o)) []
def a3f (x : Pts) (l s : List Int) : Pts := l.foldl (fun y o => addC y o s) x
def fnAt (p : Pg) (v : Int) : FnD := p.fu.getD v.toNat ⟨⟨⟨[]⟩⟩, 0, 0, []⟩
def a3m (y : Pts) (f : Nat) (n : Ins) (k : Nat) : Pts := (List.range k).foldl (fun y (i : Nat) => addR y n.b.toNat i (rg y f (n.c + i))) y
def a7z (y : Pts) (f : Nat) (n : Ins) (code : List Ins) : Pts := code.foldl (fun y m => if m.op = 30 /\ 0 <= m.a then addR y f n.a (rg y n.b.toNat m.a) else y) y
def b4t (y : Pts) (f : Nat) (n : Ins) (o : Int) (k : Nat) : Pts := (List.range k).foldl (fun y (i : Nat) => a3f y [o] (rg y f (n.a + (i + 1)))) y
noncomputable def a5d (p : Pg) (y : Pts) (l : List Int) : Pts := l.foldl (fun y o => (a2q p y o).foldl (fun y k => addR y k.toNat 0 [o]) y) y
noncomputable def a1e (p : Pg) (f pc : Nat) (n : Ins) (x : Pts) : Pts :=
 if n.op = 18 then addR x f n.a [0]
 else if alO n.op = true then
  let o : Int := objR (a0a p) ((f : Int), (pc : Int))
  addR (if n.op = 24 then b4t x f n o n.c.toNat else x) f n.a [o]
 else if n.op = 3 \/ n.op = 19 \/ n.op = 20 then addR x f n.a (rg x f n.b)
 else if n.op = 25 then addR x f n.a (a6b x (rg x f 0))
 else if n.op = 33 \/ n.op = 35 then addR x f n.a (a6b x (rg x f n.b))
 else if n.op = 34 \/ n.op = 36 \/ n.op = 47 then a3f x (rg x f n.a) (rg x f n.b)
 else if n.op = 38 then a3f x (rg x f n.b) (rg x f (n.c + 1))
 else if n.op = 48 then if 0 <= n.a then addR x f n.a (a6b x (rg x f n.b)) else x
 else if n.op = 51 then if n.b = 1 then a3f x (rg x f n.a) (rg x f n.c) else if 0 <= n.c then addR x f n.c (a6b x (rg x f n.a)) else x
 else if n.op = 26 \/ n.op = 28 \/ n.op = 31 then
  let y := a3m x f n (fnAt p n.b).params.toNat
  if n.op = 26 /\ 0 <= n.a then a7z y f n (fnAt p n.b).code else y
 else if n.op = 27 \/ n.op = 29 \/ n.op = 32 then a5d p x (rg x f n.a)
 else x
noncomputable def b1r (p : Pg) (f : Nat) (code : List Ins) (j : Nat) (x : Pts) : Pts := match j with
 | 0 => x
 | j + 1 => match code[j]? with
   | some n => a1e p f j n (b1r p f code j x)
   | none => b1r p f code j x
noncomputable def a9l (p : Pg) (x : Pts) : Nat -> Pts
 | 0 => x
 | i + 1 => match p.fu[i]? with
   | some f => b1r p i f.code f.code.length (a9l p x i)
   | none => a9l p x i
noncomputable def a8w (p : Pg) (x : Pts) : Pts := a9l p x p.fu.length
def subR (a b : List Int) : Prop := ∀ o ∈ b, o ∈ a
noncomputable def a1x (p : Pg) (f pc : Nat) (n : Ins) (x : Pts) : Prop :=
 if n.op = 18 then subR (rg x f n.a) [0]
 else if alO n.op = true then
  let o : Int := objR (a0a p) ((f : Int), (pc : Int))
  subR (rg x f n.a) [o] /\ (n.op = 24 -> ∀ i : Nat, i < n.c.toNat -> subR (cl x o) (rg x f (n.a + (i + 1))))
 else if n.op = 3 \/ n.op = 19 \/ n.op = 20 then subR (rg x f n.a) (rg x f n.b)
 else if n.op = 25 then ∀ o ∈ rg x f 0, subR (rg x f n.a) (cl x o)
 else if n.op = 33 \/ n.op = 35 then ∀ o ∈ rg x f n.b, subR (rg x f n.a) (cl x o)
 else if n.op = 34 \/ n.op = 36 \/ n.op = 47 then ∀ o ∈ rg x f n.a, subR (cl x o) (rg x f n.b)
 else if n.op = 38 then ∀ o ∈ rg x f n.b, subR (cl x o) (rg x f (n.c + 1))
 else if n.op = 48 then 0 <= n.a -> ∀ o ∈ rg x f n.b, subR (rg x f n.a) (cl x o)
 else if n.op = 51 then if n.b = 1 then ∀ o ∈ rg x f n.a, subR (cl x o) (rg x f n.c) else (0 <= n.c -> ∀ o ∈ rg x f n.a, subR (rg x f n.c) (cl x o))
 else if n.op = 26 \/ n.op = 28 \/ n.op = 31 then
  (∀ i : Nat, i < (fnAt p n.b).params.toNat -> subR (rg x n.b.toNat i) (rg x f (n.c + i))) /\
  (n.op = 26 /\ 0 <= n.a -> ∀ m ∈ (fnAt p n.b).code, m.op = 30 /\ 0 <= m.a -> subR (rg x f n.a) (rg x n.b.toNat m.a))
 else if n.op = 27 \/ n.op = 29 \/ n.op = 32 then ∀ o ∈ rg x f n.a, ∀ k ∈ a2q p x o, subR (rg x k.toNat 0) [o]
 else True
def okS (n : Nat) (l : List Int) : Prop := inc l /\ ∀ x ∈ l, 0 <= x /\ x < (n : Int)
structure Form (p : Pg) (x : Pts) : Prop where
 sites : x.sites = a0a p
 cn : x.cells.length = (a0a p).length
 rn : x.regs.length = p.fu.length
 fn : ∀ f (h : f < x.regs.length) (h' : f < p.fu.length), (x.regs[f].length : Int) = p.fu[f].regs
 rs : ∀ f (h : f < x.regs.length), ∀ s ∈ x.regs[f], okS (a0a p).length s
 cs : ∀ s ∈ x.cells, okS (a0a p).length s
structure le (x y : Pts) : Prop where
 sites : y.sites = x.sites
 cn : y.cells.length = x.cells.length
 rn : y.regs.length = x.regs.length
 fn : ∀ f : Nat, (y.regs.getD f []).length = (x.regs.getD f []).length
 rs : ∀ f a, ∀ o ∈ rg x f a, o ∈ rg y f a
 cs : ∀ c, ∀ o ∈ cl x c, o ∈ cl y c
theorem le_refl (x : Pts) : le x x := ⟨rfl, rfl, rfl, fun _ => rfl, fun _ _ _ h => h, fun _ _ h => h⟩
theorem le.trans {x y z : Pts} (h : le x y) (h' : le y z) : le x z :=
 ⟨h'.sites.trans h.sites, h'.cn.trans h.cn, h'.rn.trans h.rn, fun f => (h'.fn f).trans (h.fn f), fun f a o ho => h'.rs f a o (h.rs f a o ho), fun c o ho => h'.cs c o (h.cs c o ho)⟩
theorem Pts.ext' (h1 : x.sites = y.sites) (h2 : x.regs = y.regs) (h3 : x.cells = y.cells) : x = y := by
 cases x; cases y; simp_all
theorem Form.reg (h : Form p x) (f : Nat) (a : Int) : okS (a0a p).length (rg x f a) := by
 unfold rg
 by_cases hf : f < x.regs.length
 . rw [A5m, A5m, A5n hf, A5z]
   by_cases ha : a.toNat < x.regs[f].length
   . rw [A5n ha, A5z]
     exact h.rs f hf _ (A5p ha)
   . rw [A5y ya]
     exact ⟨List.Pairwise.nil, by simp⟩
 . rw [A5m, A5m, A5y (l := x.regs) ya]
   exact ⟨List.Pairwise.nil, by simp⟩
theorem Form.cell (h : Form p x) (o : Int) : okS (a0a p).length (cl x o) := by
 unfold cl
 by_cases ha : o.toNat < x.cells.length
 . rw [A5m, A5n ha, A5z]
   exact h.cs _ (A5p ha)
 . rw [A5m, A5y ya]
   exact ⟨List.Pairwise.nil, by simp⟩
theorem le.anti (hx : Form p x) (hy : Form p y) (h : le x y) (h' : le y x) : x = y := by
 refine Pts.ext' h.sites.symm ?_ ?_
 . refine A0e h.rn.symm fun f h1 h2 => ?_
   have hl := h.fn f
   rw [A5m, A5m, A5n h1, A5n h2, A5z, A5z] at hl
   refine A0e hl.symm fun r h3 h4 => ?_
   have e1 : rg x f (r : Int) = x.regs[f][r] := by simp [rg, A5m, h1, h3]
   have e2 : rg y f (r : Int) = y.regs[f][r] := by simp [rg, A5m, h2, h4]
   rw [<- e1, <- e2]
   exact c1e (hx.reg f r).1 (hy.reg f r).1 fun o => ⟨h.rs f r o, h'.rs f r o⟩
 . refine A0e h.cn.symm fun c h1 h2 => ?_
   have e1 : cl x (c : Int) = x.cells[c] := by simp [cl, A5m, h1]
   have e2 : cl y (c : Int) = y.cells[c] := by simp [cl, A5m, h2]
   rw [<- e1, <- e2]
   exact c1e (hx.cell c).1 (hy.cell c).1 fun o => ⟨h.cs c o, h'.cs c o⟩
def Grow (p : Pg) (g : Pts -> Pts) : Prop := ∀ x, Form p x -> Form p (g x) /\ le x (g x)
theorem Grow.id (p : Pg) : Grow p (fun x => x) := fun x h => ⟨h, le_refl x⟩
theorem Grow.comp {g h : Pts -> Pts} (hg : Grow p g) (hh : Grow p h) : Grow p (fun x => h (g x)) := fun x hx =>
 ⟨(hh _ (hg x hx).1).1, (hg x hx).2.trans (hh _ (hg x hx).1).2⟩
theorem Grow.fix {g h : Pts -> Pts} (hg : Grow p g) (hh : Grow p h) (hx : Form p x) : h (g x) = x ↔ g x = x /\ h x = x := by
 constructor
 . intro e
   obtain ⟨f1, l1⟩ := hg x hx
   have l2 := (hh _ f1).2
   rw [e] at l2
   have e1 := le.anti f1 hx l2 l1
   exact ⟨e1, by rw [e1] at e; exact e⟩
 . rintro ⟨e1, e2⟩; rw [e1, e2]
theorem Grow.fold {l : List α} (hg : ∀ a ∈ l, Grow p (fun y => g y a)) : Grow p (fun x => l.foldl g x) := by
 induction l with
 | nil => exact Grow.id p
 | cons a l ih => exact (hg a yd).comp (ih fun b hb => hg b (by simp [hb]))
theorem Grow.foldfix {l : List α} (hg : ∀ a ∈ l, Grow p (fun y => g y a)) (hx : Form p x) : l.foldl g x = x ↔ ∀ a ∈ l, g x a = x := by
 induction l with
 | nil => simp
 | cons a l ih =>
   have h1 := Grow.fix (hg a yd) (Grow.fold (l := l) (g := g) fun b hb => hg b (by simp [hb])) hx
   rw [A2i]
   refine h1.trans ?_
   rw [ih fun b hb => hg b (by simp [hb])]
   simp
theorem a3t (l : List α) (i j : Nat) (a d : α) : (l.set i a).getD j d = if i = j /\ i < l.length then a else l.getD j d := by
 simp only [A5m, A3f]
 by_cases e : i = j
 . subst e
   by_cases h : i < l.length
   . simp [h]
   . simp [h]
 . simp [e]
theorem c3k {n : Nat} {a : List Int} (ha : okS n a) (hb : ∀ x ∈ b, 0 <= x /\ x < (n : Int)) : okS n (a1s a b) :=
 ⟨b2m ha.1, fun x hx => by rcases a3x.1 hx with h | h; exact ha.2 x h; exact hb x h⟩
theorem c5r (x : Pts) (f : Nat) (a : Int) (s : List Int) (g : Nat) (b : Int) : rg (addR x f a s) g b = if (f = g /\ f < x.regs.length) /\ (a.toNat = b.toNat /\ a.toNat < (x.regs.getD f []).length) then a1s (rg x f a) s else rg x g b := by
 simp only [rg, addR, setR, a3t]
 by_cases h : f = g /\ f < x.regs.length
 . obtain ⟨rfl, h⟩ := h
   simp only [h, and_self, if_true, true_and, a3t]
 . simp [h]
theorem d9e (f : Nat) (a : Int) {s : List Int} (hs : ∀ x ∈ s, 0 <= x /\ x < ((a0a p).length : Int)) : ∀ x, Form p x -> Form p (addR x f a s) /\ le x (addR x f a s) := by
 intro x hx
 refine ⟨⟨hx.sites, hx.cn, by simp [addR, setR, hx.rn], fun g h h' => ?_, fun g h t ht => ?_, hx.cs⟩, ⟨rfl, rfl, by simp [addR, setR], fun g => ?_, fun g b o ho => ?_, fun _ _ h => h⟩⟩
 . simp only [addR, setR, A0h] at h ⊢
   rw [A1e]
   split
   . rename_i e; subst e
     rw [A0h, A5m, A5n h, A5z]
     exact hx.fn f h h'
   . exact hx.fn g h h'
 . simp only [addR, setR, A0h] at h ht
   rw [A1e] at ht
   split at ht
   . rename_i e; subst e
     rcases A2p ht with ht | rfl
     . rw [A5m, A5n h, A5z] at ht
       exact hx.rs f h t ht
     . exact c3k (hx.reg f a) hs
   . exact hx.rs g h t ht
 . simp only [addR, setR, a3t]
   split
   . rename_i e; obtain ⟨rfl, e⟩ := e
     rw [A0h]
   . rfl
 . rw [c5r]
   split
   . rename_i e
     obtain ⟨⟨rfl, _⟩, ⟨e, _⟩⟩ := e
     rw [a3x]; left
     have : rg x f a = rg x f b := by simp only [rg, e]
     rw [this]; exact ho
   . exact ho
theorem d9f (c : Int) {s : List Int} (hs : ∀ x ∈ s, 0 <= x /\ x < ((a0a p).length : Int)) : ∀ x, Form p x -> Form p (addC x c s) /\ le x (addC x c s) := by
 intro x hx
 refine ⟨⟨hx.sites, by simp [addC, setC, hx.cn], hx.rn, hx.fn, hx.rs, fun t ht => ?_⟩, ⟨rfl, by simp [addC, setC], rfl, fun _ => rfl, fun _ _ _ h => h, fun d o ho => ?_⟩⟩
 . rcases A2p ht with ht | rfl
   . exact hx.cs t ht
   . exact c3k (hx.cell c) hs
 . simp only [addC, setC, cl, a3t]
   split
   . rename_i e
     rw [a3x]; left
     rw [e.1]; exact ho
   . exact ho
theorem e6t (hx : Form p x) {a : Int} {s : List Int} (hf : f < x.regs.length) (ha : a.toNat < (x.regs.getD f []).length) : addR x f a s = x ↔ subR (rg x f a) s := by
 constructor
 . intro e o ho
   have h1 := c5r x f a s f a
   rw [e, if_pos ⟨⟨rfl, hf⟩, rfl, ha⟩] at h1
   rw [h1, a3x]; exact .inr ho
 . intro h
   have : a1s (rg x f a) s = rg x f a := c7t (hx.reg f a).1 h
   unfold addR
   rw [this]
   refine Pts.ext' rfl ?_ rfl
   simp only [setR]
   have e1 : (x.regs.getD f []).set a.toNat (rg x f a) = x.regs.getD f [] := by
    unfold rg
    rw [A5m (l := x.regs.getD f []), A5n ha, A5z, A2q]
   rw [e1, A5m, A5n hf, A5z, A2q]
theorem e6u (hx : Form p x) {c : Int} {s : List Int} (hc : c.toNat < x.cells.length) : addC x c s = x ↔ subR (cl x c) s := by
 constructor
 . intro e o ho
   have h1 : cl (addC x c s) c = a1s (cl x c) s := by simp [cl, addC, setC, a3t, hc]
   rw [e] at h1
   rw [h1, a3x]; exact .inr ho
 . intro h
   have : a1s (cl x c) s = cl x c := c7t (hx.cell c).1 h
   unfold addC
   rw [this]
   refine Pts.ext' rfl rfl ?_
   simp only [setC, cl]
   rw [A5m, A5n hc, A5z, A2q]
structure InsOk (p : Pg) (f : FnD) (n : Ins) : Prop where
 op : 1 <= n.op /\ n.op <= 52
 a : opR p f n (rR n.op).1 n.a = true
 b : opR p f n (rR n.op).2.1 n.b = true
 c : opR p f n (rR n.op).2.2 n.c = true
 x24 : n.op = 24 -> W (n.a + n.c) < f.regs /\ n.c < 64
 x25 : n.op = 25 -> n.b < 63 /\ 0 < f.regs
 x38 : n.op = 38 -> W (n.c + 1) < f.regs
theorem e5w {f : FnD} (h : a7t p f n = true) : InsOk p f n := by
 simp only [a7t, A5t, A5w] at h
 obtain ⟨⟨⟨⟨⟨h1, _⟩, h2⟩, h3⟩, h4⟩, h5⟩ := h
 refine ⟨h1, h2, h3, h4, fun e => ?_, fun e => ?_, fun e => ?_⟩
 . simpa [e] using h5
 . simpa [e] using h5
 . simpa [e] using h5
theorem c3v {p : Pg} {f : FnD} : ∀ {l : List Ins} {e : Int}, b1l p f l e = true -> ∀ n ∈ l, a7t p f n = true
 | [], _, _, n, h => by cases h
 | x :: r, e, h, n, hn => by
   simp only [b1l] at h
   split at h
   . simp only [A5t] at h
     rcases A0m.1 hn with rfl | hn
     . exact h.1
     . exact c3v h.2 n hn
   . cases h
structure VOk (p : Pg) : Prop where
 nf : p.fu.length <= 64
 head : ∀ f ∈ p.fu, a8y f = true
 ins : ∀ f ∈ p.fu, ∀ n ∈ f.code, InsOk p f n
theorem vOk (h : a0m p = true) : VOk p := by
 simp only [a0m, A5t, a4q, A5w] at h
 obtain ⟨h1, _, h2, _⟩ := h
 have h3 := fun f hf => List.all_eq_true.1 h2 f hf
 refine ⟨by simp_all, fun f hf => ?_, fun f hf n hn => ?_⟩
 . have := h3 f hf
   simp only [fnR, A5t] at this
   exact this.1.2
 . have := h3 f hf
   simp only [fnR, A5t] at this
   exact e5w (c3v this.2 n hn)
structure Regs (f : FnD) : Prop where
 p0 : 0 <= f.params
 p1 : f.params <= f.regs
 r64 : f.regs <= 64
 c1000 : f.code.length <= 1000
theorem VOk.regs (h : VOk p) {f : FnD} (hf : f ∈ p.fu) : Regs f := by
 obtain ⟨⟨h1, h2⟩, h3, h4⟩ := b7f (h.head f hf)
 exact ⟨h1, h2, h3, h4⟩
def isR (f : FnD) (v : Int) : Prop := 0 <= v /\ v < f.regs
theorem a2g {f : FnD} {r : Int} (h : opR p f n r v = true) (hr : r = 100 \/ r = 114) : isR f v := by
 simpa [opR, hr, isR] using h
theorem a7d {f : FnD} {r : Int} (h : opR p f n r v = true) (hr : r = 68 \/ r = 82) : -1 <= v /\ v < f.regs := by
 have h1 : ¬ (r = 100 \/ r = 114) := by omega
 simpa [opR, h1, hr] using h
structure Callee (p : Pg) (f : FnD) (n : Ins) : Prop where
 b0 : 0 <= n.b
 b1 : n.b < (p.fu.length : Int)
 c0 : 0 <= n.c
 c1 : n.c + (fnAt p n.b).params <= f.regs
theorem e6s (h0 : 0 <= v) (h : v < (p.fu.length : Int)) : fnAt p v ∈ p.fu := by
 have hv : v.toNat < p.fu.length := by omega
 unfold fnAt
 rw [A5m, A5n hv, A5z]
 exact A5p hv
theorem e6r (h0 : 0 <= v) (h : v < (p.fu.length : Int)) : a4d p.fu v = (fnAt p v).params := by
 have hv : v.toNat < p.fu.length := by omega
 unfold fnAt
 rw [a7p _ _ hv, A5m, A5n hv, A5z]
theorem a5e {f : FnD} (hp : VOk p) (hf : f ∈ p.fu) (h : opR p f n 102 n.b = true) : Callee p f n := by
 simp only [opR, A5t, A5w] at h
 simp at h
 obtain ⟨⟨⟨h1, h2⟩, h3⟩, h4⟩ := h
 refine ⟨h1, h2, h3, ?_⟩
 rw [e6r h1 h2] at h4
 have hm := e6s h1 h2
 have r1 := hp.regs hm
 have r2 := hp.regs hf
 have := r1.p0; have := r1.p1; have := r1.r64; have := r2.p0; have := r2.p1; have := r2.r64
 rw [W_id ya ya] at h4
 omega
theorem g0h (hx : Form p x) (hi : i < p.fu.length) {a : Int} (ha : isR p.fu[i] a) : i < x.regs.length /\ a.toNat < (x.regs.getD i []).length := by
 have h1 : i < x.regs.length := by rw [hx.rn]; exact hi
 refine ⟨h1, ?_⟩
 have := hx.fn i h1 hi
 rw [A5m, A5n h1, A5z]
 unfold isR at ha; omega
def GF (p : Pg) (g : Pts -> Pts) (C : Pts -> Prop) : Prop := (∀ x, Form p x -> Form p (g x) /\ le x (g x)) /\ ∀ x, Form p x -> (g x = x ↔ C x)
theorem GF.id (p : Pg) : GF p (fun x => x) (fun _ => True) := ⟨fun x h => ⟨h, le_refl x⟩, fun _ _ => by simp⟩
theorem a9u (hi : i < p.fu.length) {a : Int} (ha : isR p.fu[i] a) (hS : ∀ x, Form p x -> ∀ o ∈ S x, 0 <= o /\ o < ((a0a p).length : Int)) : GF p (fun x => addR x i a (S x)) (fun x => subR (rg x i a) (S x)) :=
 ⟨fun x hx => d9e i a (hS x hx) x hx, fun x hx => e6t hx (g0h hx hi ha).1 (g0h hx hi ha).2⟩
theorem GF.cell {c : Int} (hc : 0 <= c /\ c < ((a0a p).length : Int)) (hS : ∀ x, Form p x -> ∀ o ∈ S x, 0 <= o /\ o < ((a0a p).length : Int)) : GF p (fun x => addC x c (S x)) (fun x => subR (cl x c) (S x)) :=
 ⟨fun x hx => d9f c (hS x hx) x hx, fun x hx => e6u hx (by rw [hx.cn]; omega)⟩
theorem GF.foldl {C : Pts -> α -> Prop} {l : List α} (h : ∀ a ∈ l, GF p (fun y => g y a) (fun y => C y a)) : GF p (fun x => l.foldl g x) (fun x => ∀ a ∈ l, C x a) := by
 have hg : ∀ a ∈ l, Grow p (fun y => g y a) := fun a ha => (h a ha).1
 refine ⟨Grow.fold hg, fun x hx => ?_⟩
 have := Grow.foldfix hg hx
 refine this.trans ?_
 exact ⟨fun h' a ha => ((h a ha).2 x hx).1 (h' a ha), fun h' a ha => ((h a ha).2 x hx).2 (h' a ha)⟩
theorem GF.comp {p : Pg} {g h : Pts -> Pts} {C D : Pts -> Prop} (hg : GF p g C) (hh : GF p h D) : GF p (fun x => h (g x)) (fun x => C x /\ D x) :=
 ⟨Grow.comp hg.1 hh.1, fun x hx => (Grow.fix hg.1 hh.1 hx).trans (and_congr (hg.2 x hx) (hh.2 x hx))⟩
theorem GF.congr {g g' : Pts -> Pts} {C D : Pts -> Prop} (hg : GF p g C) (e : ∀ x, Form p x -> g' x = g x) (h : ∀ x, Form p x -> (C x ↔ D x)) : GF p g' D :=
 ⟨fun x hx => by rw [e x hx]; exact hg.1 x hx, fun x hx => by rw [e x hx]; exact (hg.2 x hx).trans (h x hx)⟩
theorem b5m : o ∈ a6b x l ↔ ∃ c ∈ l, o ∈ cl x c := by
 have key : ∀ (l : List Int) (a : List Int), o ∈ l.foldl (fun out c => a1s out (cl x c)) a ↔ o ∈ a \/ ∃ c ∈ l, o ∈ cl x c := by
  intro l
  induction l with
  | nil => simp
  | cons c l ih =>
    intro a
    rw [A2i, ih, a3x]
    simp [or_assoc]
 simpa [a6b] using key l []
theorem c8e {a : List Int} : subR a (a6b x l) ↔ ∀ c ∈ l, subR a (cl x c) := by
 simp only [subR, b5m]
 exact ⟨fun h c hc o ho => h o ⟨c, hc, ho⟩, fun h o ⟨c, hc, ho⟩ => h c hc o ho⟩
theorem g2t {C : Pts -> α -> Prop} {l : Pts -> List α} (h : ∀ x, Form p x -> ∀ a ∈ l x, GF p (fun y => g y a) (fun y => C y a)) : GF p (fun x => (l x).foldl g x) (fun x => ∀ a ∈ l x, C x a) :=
 ⟨fun x hx => (GF.foldl (l := l x) (fun a ha => h x hx a ha)).1 x hx, fun x hx => (GF.foldl (l := l x) (fun a ha => h x hx a ha)).2 x hx⟩
theorem b2p {l : Pts -> List Int} (hl : ∀ x, Form p x -> ∀ c ∈ l x, 0 <= c /\ c < ((a0a p).length : Int)) (hS : ∀ x, Form p x -> ∀ o ∈ S x, 0 <= o /\ o < ((a0a p).length : Int)) :
 GF p (fun x => a3f x (l x) (S x)) (fun x => ∀ c ∈ l x, subR (cl x c) (S x)) := by
 have key : ∀ x0, Form p x0 -> GF p (fun x => (l x0).foldl (fun y o => addC y o (S x0)) x) (fun x => ∀ c ∈ l x0, subR (cl x c) (S x0)) := fun x0 h0 =>
  GF.foldl fun c hc => GF.cell (hl x0 h0 c hc) (fun _ _ => hS x0 h0)
 exact ⟨fun x hx => (key x hx).1 x hx, fun x hx => (key x hx).2 x hx⟩
theorem Form.regB (h : Form p x) (f : Nat) (a : Int) : ∀ o ∈ rg x f a, 0 <= o /\ o < ((a0a p).length : Int) := (h.reg f a).2
theorem Form.cellB (h : Form p x) (c : Int) : ∀ o ∈ cl x c, 0 <= o /\ o < ((a0a p).length : Int) := (h.cell c).2
theorem e9k (h : Form p x) (l : List Int) : ∀ o ∈ a6b x l, 0 <= o /\ o < ((a0a p).length : Int) := fun o ho => by
 obtain ⟨c, _, hc⟩ := b5m.1 ho
 exact h.cellB c o hc
theorem a5z (p : Pg) : 0 < (a0a p).length := c8j _ _
theorem g7n (k : Nat) (hk : k < (a0a p).length) : ∀ o ∈ [(k : Int)], 0 <= o /\ o < ((a0a p).length : Int) := fun o ho => by
 rw [A0d] at ho; subst ho; omega
theorem d0h (hi : i < p.fu.length) {a : Int} (ha : isR p.fu[i] a) (k : Nat) (hk : k < (a0a p).length) : GF p (fun x => addR x i a [(k : Int)]) (fun x => subR (rg x i a) [(k : Int)]) := a9u hi ha fun _ _ => g7n k hk
theorem c1j (hi : i < p.fu.length) {a : Int} (ha : isR p.fu[i] a) (b : Int) : GF p (fun x => addR x i a (a6b x (rg x i b))) (fun x => ∀ o ∈ rg x i b, subR (rg x i a) (cl x o)) :=
 (a9u hi ha fun x hx => e9k hx (rg x i b)).congr (fun _ _ => rfl) fun x _ => c8e
theorem e5f {k : Int} : k ∈ oneP fs i -> 0 <= k /\ k < (i : Int) /\ a4d fs k = 1 := by
 intro h
 simp only [oneP, A1t, A4n, A2k, A5w] at h
 obtain ⟨j, ⟨h1, h2⟩, rfl⟩ := h
 exact ⟨by omega, by omega, h2⟩
theorem c6c (p : Pg) (s : Int × Int) : b4r p s = ins0 \/ ∃ f ∈ p.fu, b4r p s ∈ f.code := by
 unfold b4r
 cases h : p.fu[s.1.toNat]? with
 | none => exact .inl rfl
 | some f =>
   simp only
   rw [A5m]
   cases h' : f.code[s.2.toNat]? with
   | none => exact .inl rfl
   | some n => exact .inr ⟨f, A1b h, A1b h'⟩
theorem c1o (hp : VOk p) {k : Int} (h : k ∈ a2q p x o) : 0 <= k /\ k < (p.fu.length : Int) /\ a4d p.fu k = 1 := by
 unfold a2q at h
 have hn : ∀ n : Ins, n = (if 0 < o then b4r p (x.sites.getD o.toNat (0, 0)) else ins0) -> n.op = 24 -> 0 <= n.b /\ n.b < (p.fu.length : Int) /\ a4d p.fu n.b = 1 := by
  intro n hn h24
  split at hn
  . rcases c6c p (x.sites.getD o.toNat (0, 0)) with e | ⟨f, hf, hm⟩
    . rw [hn, e] at h24; simp [ins0] at h24
    . have hi := (hp.ins f hf _ hm).b
      rw [<- hn, h24] at hi
      have hi : opR p f n 49 n.b = true := hi
      simp [opR] at hi
      exact ⟨hi.1.1, hi.1.2, hi.2⟩
  . rw [hn] at h24; simp [ins0] at h24
 generalize (if 0 < o then b4r p (x.sites.getD o.toNat (0, 0)) else ins0) = n at h hn
 dsimp only at h
 by_cases e : n.op = 23
 . rw [if_pos e] at h; cases h
 . rw [if_neg e] at h
   by_cases e2 : n.op = 24 /\ wrR p x o = false
   . rw [if_pos e2, A0d] at h
     subst h
     exact hn n rfl e2.1
   . rw [if_neg e2] at h
     exact e5f h
theorem reg0 (hp : VOk p) {k : Int} (h0 : 0 <= k) (h1 : k < (p.fu.length : Int)) (h2 : a4d p.fu k = 1) : ∃ h : k.toNat < p.fu.length, isR p.fu[k.toNat] 0 := by
 have hk : k.toNat < p.fu.length := by omega
 refine ⟨hk, ?_⟩
 have := hp.regs (A5p hk)
 rw [a7p _ _ hk] at h2
 have := this.p1
 unfold isR; omega
theorem f0l (hp : VOk p) (o : Int) (ho : 0 <= o /\ o < ((a0a p).length : Int)) : GF p (fun y => (a2q p y o).foldl (fun y k => addR y k.toNat 0 [o]) y) (fun y => ∀ k ∈ a2q p y o, subR (rg y k.toNat 0) [o]) := by
 refine g2t (C := fun y (k : Int) => subR (rg y k.toNat 0) [o]) fun x hx k hk => ?_
 obtain ⟨h0, h1, h2⟩ := c1o hp hk
 obtain ⟨g1, g2⟩ := reg0 hp h0 h1 h2
 refine a9u g1 g2 fun _ _ o' ho' => ?_
 rw [A0d] at ho'; subst ho'; exact ho
theorem f5x (hp : VOk p) (i : Nat) (a : Int) : GF p (fun x => a5d p x (rg x i a)) (fun x => ∀ o ∈ rg x i a, ∀ k ∈ a2q p x o, subR (rg x k.toNat 0) [o]) :=
 g2t (C := fun x (o : Int) => ∀ k ∈ a2q p x o, subR (rg x k.toNat 0) [o]) fun x hx o ho => f0l hp o (hx.regB i a o ho)
theorem b0g (p : Pg) (s : Int × Int) : objR (a0a p) s < (a0a p).length := f4n (a5z p)
theorem d9k (hb0 : 0 <= n.b) (hb : n.b.toNat < p.fu.length) (hpar : Regs p.fu[n.b.toNat]) (k : Nat) (hk : (k : Int) <= p.fu[n.b.toNat].params) :
 GF p (fun x => a3m x i n k) (fun x => ∀ j : Nat, j < k -> subR (rg x n.b.toNat j) (rg x i (n.c + j))) := by
 refine (GF.foldl (l := List.range k) (g := fun y (j : Nat) => addR y n.b.toNat j (rg y i (n.c + j))) (C := fun x j => subR (rg x n.b.toNat j) (rg x i (n.c + j))) fun j hj => ?_).congr (fun _ _ => rfl) fun x _ => by simp
 rw [A2k] at hj
 exact a9u hb ⟨by omega, by have := hpar.p1; omega⟩ fun x hx => hx.regB i _
theorem f5w (hp : VOk p) (hi : i < p.fu.length) (ha : isR p.fu[i] n.a) (hb : n.b.toNat < p.fu.length) :
 GF p (fun x => a7z x i n (p.fu[n.b.toNat]).code) (fun x => ∀ m ∈ (p.fu[n.b.toNat]).code, m.op = 30 /\ 0 <= m.a -> subR (rg x i n.a) (rg x n.b.toNat m.a)) := by
 refine GF.foldl (g := fun y (m : Ins) => if m.op = 30 /\ 0 <= m.a then addR y i n.a (rg y n.b.toNat m.a) else y) (C := fun x m => m.op = 30 /\ 0 <= m.a -> subR (rg x i n.a) (rg x n.b.toNat m.a)) fun m hm => ?_
 by_cases h : m.op = 30 /\ 0 <= m.a
 . simp only [h, and_self, if_true, true_imp_iff]
   exact a9u hi ha fun x hx => hx.regB _ _
 . simp only [h, if_false, false_imp_iff]
   exact GF.id p
theorem d9m (ho : 0 <= o /\ o < ((a0a p).length : Int)) (k : Nat) :
 GF p (fun x => b4t x i n o k) (fun x => ∀ j : Nat, j < k -> subR (cl x o) (rg x i (n.a + (j + 1)))) := by
 refine (GF.foldl (l := List.range k) (g := fun y (j : Nat) => a3f y [o] (rg y i (n.a + (j + 1)))) (C := fun x j => subR (cl x o) (rg x i (n.a + (j + 1)))) fun j _ => ?_).congr (fun _ _ => rfl) fun x _ => by simp
 refine (b2p (l := fun _ => [o]) (S := fun x => rg x i (n.a + (j + 1))) (fun _ _ c hc => ?_) fun x hx => hx.regB i _).congr (fun _ _ => rfl) fun x _ => by simp
 rw [A0d] at hc; subst hc; exact ho
theorem d9j (hp : VOk p) (hi : i < p.fu.length) (pc : Nat) (hn : n ∈ p.fu[i].code) : GF p (a1e p i pc n) (a1x p i pc n) := by
 have hI := hp.ins _ (A5p hi) n hn
 have hR := hp.regs (A5p hi)
 obtain ⟨hop, ha, hb, hc, h24, h25, h38⟩ := hI
 unfold a1e a1x
 by_cases e : n.op = 18
 . rw [e] at ha
   simp only [e, if_true]
   have := d0h hi (a2g (r := 100) ha (.inl rfl)) 0 (a5z p)
   simpa using this
 simp only [e, if_false]
 by_cases e : alO n.op = true
 . simp only [e, if_true]
   have e' : n.op = 21 \/ n.op = 22 \/ n.op = 23 \/ n.op = 24 := by simpa [alO, or_assoc] using e
   have hra : isR p.fu[i] n.a := by
    refine a2g (r := (rR n.op).1) ha (.inl ?_)
    rcases e' with e | e | e | e <;> rw [e] <;> rfl
   have ho : 0 <= (objR (a0a p) ((i : Int), (pc : Int)) : Int) /\ (objR (a0a p) ((i : Int), (pc : Int)) : Int) < ((a0a p).length : Int) := by
    have := b0g p ((i : Int), (pc : Int)); omega
   have h1 := d0h hi hra _ (b0g p ((i : Int), (pc : Int)))
   by_cases e2 : n.op = 24
   . simp only [e2, if_true, true_imp_iff]
     have h2 := (d9m (i := i) (n := n) ho n.c.toNat).comp h1
     exact h2.congr (fun _ _ => rfl) fun x _ => And.comm
   . simp only [e2, if_false, false_imp_iff, and_true]
     exact h1
 simp only [e]
 by_cases e : n.op = 3 \/ n.op = 19 \/ n.op = 20
 . simp only [e, if_true]
   refine a9u hi (a2g (r := (rR n.op).1) ha (.inl ?_)) fun x hx => hx.regB i _
   rcases e with e | e | e <;> rw [e] <;> rfl
 simp only [e, if_false]
 by_cases e : n.op = 25
 . rw [e] at ha
   simp only [e, if_true]
   exact c1j hi (a2g (r := 100) ha (.inl rfl)) 0
 simp only [e, if_false]
 by_cases e : n.op = 33 \/ n.op = 35
 . simp only [e, if_true]
   refine c1j hi (a2g (r := (rR n.op).1) ha (.inl ?_)) _
   rcases e with e | e <;> rw [e] <;> rfl
 simp only [e, if_false]
 by_cases e : n.op = 34 \/ n.op = 36 \/ n.op = 47
 . simp only [e, if_true]
   exact b2p (fun x hx => hx.regB i _) fun x hx => hx.regB i _
 simp only [e, if_false]
 by_cases e : n.op = 38
 . simp only [e, if_true]
   exact b2p (fun x hx => hx.regB i _) fun x hx => hx.regB i _
 simp only [e, if_false]
 by_cases e : n.op = 48
 . simp only [e, if_true]
   rw [e] at ha
   have hd := a7d (r := 68) ha (.inl rfl)
   by_cases h0 : 0 <= n.a
   . simp only [h0, if_true, true_imp_iff]
     exact c1j hi ⟨h0, hd.2⟩ _
   . simp only [h0, if_false, false_imp_iff]
     exact GF.id p
 simp only [e, if_false]
 by_cases e : n.op = 51
 . simp only [e, if_true]
   rw [e] at hc
   by_cases h1 : n.b = 1
   . simp only [h1, if_true]
     exact b2p (fun x hx => hx.regB i _) fun x hx => hx.regB i _
   . simp only [h1, if_false]
     by_cases h0 : 0 <= n.c
     . simp only [h0, if_true, true_imp_iff]
       refine c1j hi ⟨h0, ?_⟩ _
       have hc : opR p p.fu[i] n 99 n.c = true := hc
       simp [opR] at hc
       exact hc.1.2
     . simp only [h0, if_false, false_imp_iff]
       exact GF.id p
 simp only [e, if_false]
 by_cases e : n.op = 26 \/ n.op = 28 \/ n.op = 31
 . simp only [e, if_true]
   have hb' : opR p p.fu[i] n 102 n.b = true := by rcases e with e | e | e <;> rw [e] at hb <;> exact hb
   obtain ⟨b0, b1, c0, c1⟩ := a5e hp (A5p hi) hb'
   have hbl : n.b.toNat < p.fu.length := by omega
   have hfn : fnAt p n.b = p.fu[n.b.toNat] := by unfold fnAt; rw [A5m, A5n hbl, A5z]
   have hpr := hp.regs (A5p hbl)
   rw [hfn]
   have h1 := d9k (i := i) (n := n) b0 hbl hpr (p.fu[n.b.toNat].params.toNat) (by have := hpr.p0; omega)
   by_cases e2 : n.op = 26 /\ 0 <= n.a
   . simp only [e2, if_true, true_imp_iff]
     have hd : isR p.fu[i] n.a := ⟨e2.2, by
      rw [e2.1] at ha
      exact (a7d (r := 68) ha (.inl rfl)).2⟩
     have := h1.comp (f5w hp hi hd hbl)
     simpa [e2.1, e2.2] using this
   . simp only [e2, if_false, false_imp_iff, and_true]
     exact h1
 simp only [e, if_false]
 by_cases e : n.op = 27 \/ n.op = 29 \/ n.op = 32
 . simp only [e, if_true]
   exact f5x hp i n.a
 simp only [e, if_false]
 exact GF.id p
noncomputable def a4i (p : Pg) (x : Pts) : Prop := ∀ i (hi : i < p.fu.length) j (hj : j < p.fu[i].code.length), a1x p i j p.fu[i].code[j] x
theorem d9l (hp : VOk p) (hi : i < p.fu.length) (k : Nat) (hk : k <= p.fu[i].code.length) : GF p (b1r p i p.fu[i].code k) (fun x => ∀ j (hj : j < p.fu[i].code.length), j < k -> a1x p i j p.fu[i].code[j] x) := by
 induction k with
 | zero => exact (GF.id p).congr (fun _ _ => rfl) fun x _ => by simp
 | succ k ih =>
   have hk' : k < p.fu[i].code.length := by omega
   have := (ih ya).comp (d9j hp hi k (A5p hk'))
   refine this.congr (fun x _ => by simp only [b1r, A5n hk']) fun x _ => ?_
   constructor
   . rintro ⟨h1, h2⟩ j hj hjk
     by_cases e : j = k
     . subst e; exact h2
     . exact h1 j hj ya
   . intro h
     exact ⟨fun j hj hjk => h j hj ya, h k hk' ya⟩
theorem c1k (hp : VOk p) (k : Nat) (hk : k <= p.fu.length) : GF p (fun x => a9l p x k) (fun x => ∀ i (hi : i < p.fu.length), i < k -> ∀ j (hj : j < p.fu[i].code.length), a1x p i j p.fu[i].code[j] x) := by
 induction k with
 | zero => exact (GF.id p).congr (fun _ _ => rfl) fun x _ => by simp
 | succ k ih =>
   have hk' : k < p.fu.length := by omega
   have := (ih ya).comp (d9l hp hk' _ (A5s _))
   refine this.congr (fun x _ => by simp only [a9l, A5n hk']) fun x _ => ?_
   constructor
   . rintro ⟨h1, h2⟩ i hi hik j hj
     by_cases e : i = k
     . subst e; exact h2 j hj hj
     . exact h1 i hi ya j hj
   . intro h
     exact ⟨fun i hi hik j hj => h i hi ya j hj, fun j hj _ => h k hk' ya j hj⟩
theorem e4v (hp : a0m p = true) (hx : Form p x) : a8w p x = x ↔ a4i p x := by
 have := (c1k (vOk hp) p.fu.length (A5s _)).2 x hx
 unfold a8w a4i
 refine this.trans ⟨fun h i hi j hj => h i hi hi j hj, fun h i hi _ j hj => h i hi j hj⟩
def okA (n : Nat) (l : List Int) : Prop := l.Nodup /\ ∀ x ∈ l, 0 <= x /\ x < (n : Int)
structure Shp (p : Pg) (y : Pts) : Prop where
 sites : y.sites = a0a p
 cn : y.cells.length = (a0a p).length
 rn : y.regs.length = p.fu.length
 fn : ∀ f (h : f < y.regs.length) (h' : f < p.fu.length), (y.regs[f].length : Int) = p.fu[f].regs
 rs : ∀ f (h : f < y.regs.length), ∀ s ∈ y.regs[f], okA (a0a p).length s
 cs : ∀ s ∈ y.cells, okA (a0a p).length s
theorem d8s (h : inc l) : l.Nodup := by
 rw [A5c]
 exact List.Pairwise.imp (fun h => by omega) h
theorem okS.a {n : Nat} (h : okS n l) : okA n l := ⟨d8s h.1, h.2⟩
theorem Form.shp (h : Form p x) : Shp p x := ⟨h.sites, h.cn, h.rn, h.fn, fun f hf s hs => (h.rs f hf s hs).a, fun s hs => (h.cs s hs).a⟩
theorem okA.nil (n : Nat) : okA n [] := ⟨List.nodup_nil, by simp⟩
theorem Shp.reg (h : Shp p x) (f : Nat) (a : Int) : okA (a0a p).length (rg x f a) := by
 unfold rg
 by_cases hf : f < x.regs.length
 . rw [A5m, A5m, A5n hf, A5z]
   by_cases ha : a.toNat < x.regs[f].length
   . rw [A5n ha, A5z]
     exact h.rs f hf _ (A5p ha)
   . rw [A5y ya]
     exact okA.nil _
 . rw [A5m, A5m, A5y (l := x.regs) ya]
   exact okA.nil _
theorem Shp.cell (h : Shp p x) (o : Int) : okA (a0a p).length (cl x o) := by
 unfold cl
 by_cases ha : o.toNat < x.cells.length
 . rw [A5m, A5n ha, A5z]
   exact h.cs _ (A5p ha)
 . rw [A5m, A5y ya]
   exact okA.nil _
theorem b6t : ∀ (n : Nat) (l : List Nat), l.Nodup -> (∀ x ∈ l, x < n) -> l.length <= n
 | 0, l, _, h => by
   cases l with
   | nil => simp
   | cons a l => exact absurd (h a yd) ya
 | n + 1, l, hn, h => by
   have ih := b6t n (l.erase n) (hn.erase n) fun x hx => by
    rw [hn.mem_erase_iff] at hx
    have := h x hx.2
    have := hx.1
    omega
   rw [List.length_erase] at ih
   split at ih <;> omega
theorem b1j {n : Nat} (h : okA n l) : l.length <= n := by
 have hnd : (l.map Int.toNat).Nodup := by
  rw [A5c, List.pairwise_map]
  refine (A5c.1 h.1).imp_of_mem ?_
  intro a b ha hb hne e
  have := h.2 a ha
  have := h.2 b hb
  omega
 have := b6t n _ hnd fun k hk => by
  obtain ⟨a, ha, rfl⟩ := A1t.1 hk
  have := h.2 a ha
  omega
 simpa using this
inductive SL where
 | r (f a : Nat)
 | c (o : Nat)
 deriving DecidableEq
variable {s : SL}
def getS (y : Pts) : SL -> List Int
 | .r f a => rg y f (a : Int)
 | .c o => cl y (o : Int)
def setS (y : Pts) : SL -> List Int -> Pts
 | .r f a, s => setR y f (a : Int) s
 | .c o, s => setC y (o : Int) s
def SL.ok (y : Pts) : SL -> Prop
 | .r f a => f < y.regs.length /\ a < (y.regs.getD f []).length
 | .c o => o < y.cells.length
theorem b2q (h : s.ok y) (l : List Int) (t : SL) : getS (setS y s l) t = if s = t then l else getS y t := by
 cases s with
 | r f a =>
   obtain ⟨h1, h2⟩ := h
   cases t with
   | r g b =>
     simp only [getS, setS, setR, rg, A5r, a3t, SL.r.injEq]
     by_cases e1 : f = g
     . subst e1
       simp only [true_and, h1, if_true, a3t]
       by_cases e2 : a = b
       . subst e2; simp only [true_and, h2, if_true]
       . simp [e2]
     . simp [e1]
   | c o => simp [getS, setS, setR, cl]
 | c o =>
   have h : o < y.cells.length := h
   cases t with
   | r g b => simp [getS, setS, setC, rg]
   | c q =>
     simp only [getS, setS, setC, cl, A5r, a3t, SL.c.injEq]
     by_cases e : o = q
     . subst e; simp [h]
     . simp [e]
structure ple (y z : Pts) : Prop where
 sites : z.sites = y.sites
 cn : z.cells.length = y.cells.length
 rn : z.regs.length = y.regs.length
 fn : ∀ f : Nat, (z.regs.getD f []).length = (y.regs.getD f []).length
 pf : ∀ t : SL, getS y t <+: getS z t
theorem ple.refl (y : Pts) : ple y y := ⟨rfl, rfl, rfl, fun _ => rfl, fun _ => List.prefix_refl _⟩
theorem ple.trans {x y z : Pts} (h : ple x y) (h' : ple y z) : ple x z := ⟨h'.sites.trans h.sites, h'.cn.trans h.cn, h'.rn.trans h.rn, fun f => (h'.fn f).trans (h.fn f), fun t => (h.pf t).trans (h'.pf t)⟩
theorem ple.ok (h : ple y z) {t : SL} (ht : t.ok y) : t.ok z := by
 cases t with
 | r f a => exact ⟨by rw [h.rn]; exact ht.1, by rw [h.fn]; exact ht.2⟩
 | c o => show o < z.cells.length; rw [h.cn]; exact ht
def sub (y z : Pts) : Prop := z.sites = y.sites /\ ∀ t : SL, ∀ o ∈ getS y t, o ∈ getS z t
theorem sub.refl (y : Pts) : sub y y := ⟨rfl, fun _ _ h => h⟩
theorem sub.trans {x y z : Pts} (h : sub x y) (h' : sub y z) : sub x z := ⟨h'.1.trans h.1, fun t o ho => h'.2 t o (h.2 t o ho)⟩
theorem ple.sub (h : ple y z) : sub y z := ⟨h.sites, fun t _ ho => (h.pf t).subset ho⟩
def lens (l : List (List Int)) : Nat := (l.map List.length).sum
def a9g (y : Pts) : Nat := (y.regs.map lens).sum + lens y.cells
theorem c9s {l : List (List Int)} (h : i < l.length) (a : List Int) : lens (l.set i a) + l[i].length = lens l + a.length := by
 induction l generalizing i with
 | nil => simp at h
 | cons x l ih =>
   cases i with
   | zero => simp [lens]; omega
   | succ i =>
     have := ih (i := i) zl
     simp only [lens, List.set_cons_succ, A1m, List.sum_cons, A4v] at this ⊢
     omega
theorem d8c {l : List (List (List Int))} (h : i < l.length) (a : List (List Int)) : ((l.set i a).map lens).sum + lens l[i] = (l.map lens).sum + lens a := by
 induction l generalizing i with
 | nil => simp at h
 | cons x l ih =>
   cases i with
   | zero => simp; omega
   | succ i =>
     have := ih (i := i) zl
     simp only [List.set_cons_succ, A1m, List.sum_cons, A4v] at this ⊢
     omega
theorem d5l (h : s.ok y) (l : List Int) : a9g (setS y s l) + (getS y s).length = a9g y + l.length := by
 cases s with
 | r f a =>
   obtain ⟨h1, h2⟩ := h
   rw [A5m, A5n h1, A5z] at h2
   have k1 := d8c h1 (y.regs[f].set a l)
   have k2 := c9s h2 l
   simp only [a9g, setS, setR, getS, rg, A5r, A5m, A5n h1, A5z, A5n h2]
   omega
 | c o =>
   have h : o < y.cells.length := h
   have k2 := c9s h l
   simp only [a9g, setS, setC, getS, cl, A5r, A5m, A5n h, A5z]
   omega
theorem d7b (h : s.ok y) (l : List Int) : ple y (setS y s (getS y s ++ l)) := by
 refine ⟨?_, ?_, ?_, fun f => ?_, fun t => ?_⟩
 . cases s <;> rfl
 . cases s <;> simp [setS, setR, setC]
 . cases s <;> simp [setS, setR, setC]
 . cases s with
   | r g a =>
     simp only [setS, setR, a3t]
     split
     . rename_i e; obtain ⟨rfl, _⟩ := e; simp
     . rfl
   | c o => rfl
 . rw [b2q h]
   split
   . rename_i e; subst e; exact List.prefix_append _ _
   . exact List.prefix_refl _
theorem Shp.set (hy : Shp p y) (h : s.ok y) (hl : okA (a0a p).length l) : Shp p (setS y s l) := by
 cases s with
 | r f a =>
   obtain ⟨h1, h2⟩ := h
   refine ⟨hy.sites, hy.cn, by simp [setS, setR, hy.rn], fun g hg hg' => ?_, fun g hg s hs => ?_, hy.cs⟩
   . simp only [setS, setR, A1e]
     split
     . rename_i e; subst e
       rw [A0h, A5m, A5n h1, A5z]
       exact hy.fn _ h1 hg'
     . exact hy.fn g (by simpa [setS, setR] using hg) hg'
   . simp only [setS, setR, A1e] at hs
     split at hs
     . rename_i e; subst e
       rw [A5m, A5n h1, A5z] at hs
       rcases A2p hs with hs | rfl
       . exact hy.rs _ h1 s hs
       . exact hl
     . exact hy.rs g (by simpa [setS, setR] using hg) s hs
 | c o =>
   refine ⟨hy.sites, by simp [setS, setC, hy.cn], hy.rn, hy.fn, hy.rs, fun s hs => ?_⟩
   rcases A2p hs with hs | rfl
   . exact hy.cs s hs
   . exact hl
theorem Shp.gets (h : Shp p y) (t : SL) : okA (a0a p).length (getS y t) := by
 cases t with
 | r f a => exact h.reg f a
 | c o => exact h.cell o
theorem c8h (hy : Shp p y) (hr : ∀ f ∈ p.fu, f.regs <= 64) : a9g y <= (p.fu.length * 64 + (a0a p).length) * (a0a p).length := by
 have key : ∀ (l : List (List Int)), (∀ s ∈ l, okA (a0a p).length s) -> lens l <= l.length * (a0a p).length := by
  intro l
  induction l with
  | nil => intro _; simp [lens]
  | cons a l ih =>
    intro h
    have h1 := b1j (h a yd)
    have h2 := ih fun s hs => h s (by simp [hs])
    simp only [lens, A1m, List.sum_cons, A1a, A1d, A3b] at h2 ⊢
    omega
 have h1 := key y.cells hy.cs
 rw [hy.cn] at h1
 have h2 : ∀ (l : List (List (List Int))), (∀ r ∈ l, r.length <= 64 /\ ∀ s ∈ r, okA (a0a p).length s) -> (l.map lens).sum <= l.length * 64 * (a0a p).length := by
  intro l
  induction l with
  | nil => intro _; simp
  | cons a l ih =>
    intro h
    have h1 := key a (h a yd).2
    have h2 := ih fun s hs => h s (by simp [hs])
    have h3 : a.length * (a0a p).length <= 64 * (a0a p).length := A1z _ (h a yd).1
    simp only [A1m, List.sum_cons, A1a, A1d, A3b] at h2 ⊢
    omega
 have h3 := h2 y.regs fun r hr' => by
  obtain ⟨f, hf, rfl⟩ := A0g hr'
  have hf' : f < p.fu.length := by rw [<- hy.rn]; exact hf
  have h4 := hy.fn f hf hf'
  have := hr _ (A5p hf')
  exact ⟨by omega, hy.rs f hf⟩
 rw [hy.rn] at h3
 unfold a9g
 rw [A1d]
 omega
structure TR (m : Bool) (Cn Cs : Pts -> Prop) (y : Pts) (b : Bool) (y' : Pts) (b' : Bool) : Prop where
 pre : ple y y'
 least : ∀ z, Cs z -> sub y z -> sub y' z
 good : b' = m -> b = m /\ y' = y /\ Cn y
 snd : m = true -> y' = y /\ (b = true -> Cs y -> b' = true)
 prog : m = false -> (y' = y /\ b' = b) \/ (a9g y < a9g y' /\ b' = true)
section
variable {m : Bool} {Cn Cs Dn Ds : Pts -> Prop} {y y1 y2 : Pts} {b b1 b2 : Bool}
theorem TR.id (h : Cn y) : TR m Cn Cs y b y b := ⟨ple.refl y, fun _ _ h => h, fun e => ⟨e, rfl, h⟩, fun _ => ⟨rfl, fun h _ => h⟩, fun _ => .inl ⟨rfl, rfl⟩⟩
theorem TR.comp (h : TR m Cn Cs y b y1 b1) (h' : TR m Dn Ds y1 b1 y2 b2) : TR m (fun z => Cn z /\ Dn z) (fun z => Cs z /\ Ds z) y b y2 b2 := by
 refine ⟨h.pre.trans h'.pre, fun z hz hs => h'.least z hz.2 (h.least z hz.1 hs), fun e => ?_, fun e => ?_, fun e => ?_⟩
 . obtain ⟨e1, rfl, c1⟩ := h'.good e
   obtain ⟨e2, rfl, c2⟩ := h.good e1
   exact ⟨e2, rfl, c2, c1⟩
 . obtain ⟨rfl, g1⟩ := h.snd e
   obtain ⟨rfl, g2⟩ := h'.snd e
   exact ⟨rfl, fun hb hc => g2 (g1 hb hc.1) hc.2⟩
 . rcases h.prog e with ⟨rfl, rfl⟩ | ⟨g1, rfl⟩
   . exact h'.prog e
   . rcases h'.prog e with ⟨rfl, rfl⟩ | ⟨g2, rfl⟩
     . exact .inr ⟨g1, rfl⟩
     . exact .inr ⟨Nat.lt_trans g1 g2, rfl⟩
theorem TR.mono (h : TR m Cn Cs y b y1 b1) (hn : Cn y -> Dn y) (hs : ∀ z, sub y z -> Ds z -> Cs z) : TR m Dn Ds y b y1 b1 :=
 ⟨h.pre, fun z hz hs' => h.least z (hs z hs' hz) hs', fun e => ⟨(h.good e).1, (h.good e).2.1, hn (h.good e).2.2⟩, fun e => ⟨(h.snd e).1, fun hb hc => (h.snd e).2 hb (hs y (sub.refl y) hc)⟩, h.prog⟩
theorem TR.next (h : TR m Cn Cs y b y1 b1) (h' : TR m Dn Ds y1 b1 y2 b2) (hs : ∀ z, sub y1 z -> Cs z -> Ds z) : TR m (fun z => Cn z /\ Dn z) Cs y b y2 b2 := by
 refine ⟨h.pre.trans h'.pre, fun z hz hs' => h'.least z (hs z (h.least z hz hs') hz) (h.least z hz hs'), fun e => ?_, fun e => ?_, fun e => ?_⟩
 . obtain ⟨e1, rfl, c1⟩ := h'.good e
   obtain ⟨e2, rfl, c2⟩ := h.good e1
   exact ⟨e2, rfl, c2, c1⟩
 . obtain ⟨rfl, g1⟩ := h.snd e
   obtain ⟨rfl, g2⟩ := h'.snd e
   exact ⟨rfl, fun hb hc => g2 (g1 hb hc) (hs _ (sub.refl _) hc)⟩
 . rcases h.prog e with ⟨rfl, rfl⟩ | ⟨g1, rfl⟩
   . exact h'.prog e
   . rcases h'.prog e with ⟨rfl, rfl⟩ | ⟨g2, rfl⟩
     . exact .inr ⟨g1, rfl⟩
     . exact .inr ⟨Nat.lt_trans g1 g2, rfl⟩
theorem TR.shp (_h : TR m Cn Cs y b y1 b1) (hy : Shp p y1) : Shp p y1 := hy
end
def inS (t : SL) (l : List Int) (z : Pts) : Prop := subR (getS z t) l
theorem TR.lay {t : SL} {b : Bool} (ht : t.ok y) (o : Int) : TR false (fun _ => False) (inS t [o]) y b (setS y t (getS y t ++ [o])) true := by
 refine ⟨d7b ht [o], fun z hz hs => ⟨hs.1.trans (d7b ht [o]).sites.symm, fun s q hq => ?_⟩, fun e => by simp at e, fun e => by simp at e, fun _ => .inr ⟨?_, rfl⟩⟩
 . rw [b2q ht] at hq
   split at hq
   . rename_i e; subst e
     rcases A0o.1 hq with hq | hq
     . exact hs.2 _ q hq
     . simp at hq; subst hq; exact hz q yd
   . exact hs.2 s q hq
 . have := d5l ht (getS y t ++ [o])
   simp at this
   omega
structure LI (p : Pg) (m : Bool) (t : SL) (C : Pts -> Int -> Prop) (Y : Pts) (g : Bool) (sn : List Nat) (lst : Nat) (Z : Pts) (h : Bool) : Prop where
 nd : sn.Nodup
 lt : ∀ i ∈ sn, i < lst
 le : lst <= (getS Z t).length
 sh : Shp p Z
 tr : TR m (fun z => ∀ i ∈ sn, C z ((getS z t).getD i 0)) (fun z => ∀ o ∈ getS z t, C z o) Y g Z h
section
variable {p : Pg} {m : Bool} {t : SL} {C Dc : Pts -> Int -> Prop} {Y Z Z2 : Pts} {g h h2 : Bool} {sn : List Nat} {lst i : Nat} {Dn Ds : Pts -> Prop}
theorem LI.start (hy : Shp p Y) : LI p m t C Y g [] (getS Y t).length Y g := ⟨List.nodup_nil, by simp, A5s _, hy, TR.id yd⟩
theorem LI.lt' (H : LI p m t C Y g sn lst Z h) : ∀ j ∈ sn, j < (getS Z t).length := fun j hj => A2b (H.lt j hj) H.le
theorem b9b {n : Nat} (hnd : sn.Nodup) (hlt : ∀ j ∈ sn, j < n) (hi : i < n) (hn : i ∉ sn) : (sn ++ [i]).Nodup /\ (∀ j ∈ sn ++ [i], j < n) /\ sn.length < n := by
 have h1 : (sn ++ [i]).Nodup := by
  rw [List.nodup_append]
  refine ⟨hnd, by simp, fun a ha b hb e => ?_⟩
  simp at hb
  subst hb; subst e
  exact hn ha
 have h2 : ∀ j ∈ sn ++ [i], j < n := fun j hj => by
  rcases A0o.1 hj with hj | hj
  . exact hlt j hj
  . simp at hj; omega
 have := b6t n _ h1 h2
 simp at this
 exact ⟨h1, h2, by omega⟩
theorem LI.len (H : LI p m t C Y g sn lst Z h) (hi : i < (getS Z t).length) (hn : i ∉ sn) : sn.length < (a0a p).length := by
 have := (b9b H.nd H.lt' hi hn).2.2
 have := b1j (H.sh.gets t)
 omega
theorem LI.step (H : LI p m t C Y g sn lst Z h) (hi : i < (getS Z t).length) (hn : i ∉ sn) (hsh : Shp p Z2) (hT : TR m Dn Ds Z h Z2 h2) (hds : ∀ z, sub Z z -> C z (getS Z t)[i] -> Ds z) (hdn : Dn Z -> C Z (getS Z t)[i]) : LI p m t C Y g (sn ++ [i]) (getS Z t).length Z2 h2 := by
 obtain ⟨k1, k2, _⟩ := b9b H.nd H.lt' hi hn
 refine ⟨k1, k2, (hT.pre.pf t).length_le, hsh, ?_⟩
 have hmem : (getS Z t)[i] ∈ getS Z t := A5p hi
 refine ⟨H.tr.pre.trans hT.pre, fun z hz hs => ?_, fun e => ?_, fun e => ?_, fun e => ?_⟩
 . have h1 := H.tr.least z hz hs
   exact hT.least z (hds z h1 (hz _ (h1.2 t _ hmem))) h1
 . obtain ⟨e1, rfl, c1⟩ := hT.good e
   obtain ⟨e2, rfl, c2⟩ := H.tr.good e1
   refine ⟨e2, rfl, fun j hj => ?_⟩
   rcases A0o.1 hj with hj | hj
   . exact c2 j hj
   . simp at hj; subst hj
     rw [A5m, A5n hi, A5z]
     exact hdn c1
 . obtain ⟨rfl, g1⟩ := H.tr.snd e
   obtain ⟨rfl, g2⟩ := hT.snd e
   exact ⟨rfl, fun hb hc => g2 (g1 hb hc) (hds _ (sub.refl _) (hc _ hmem))⟩
 . rcases H.tr.prog e with ⟨rfl, rfl⟩ | ⟨g1, rfl⟩
   . exact hT.prog e
   . rcases hT.prog e with ⟨rfl, rfl⟩ | ⟨g2, rfl⟩
     . exact .inr ⟨g1, rfl⟩
     . exact .inr ⟨Nat.lt_trans g1 g2, rfl⟩
theorem LI.fin (H : LI p m t C Y g sn lst Z h) (hz : ∀ i, i < (getS Y t).length -> i ∈ sn) : TR m (fun z => ∀ o ∈ getS z t, C z o) (fun z => ∀ o ∈ getS z t, C z o) Y g Z h :=
 H.tr.mono (fun hc o ho => by
  obtain ⟨i, hi, rfl⟩ := A0g ho
  have := hc i (hz i hi)
  rwa [A5m, A5n hi, A5z] at this) fun _ _ h => h
end
theorem a7u (y : Pts) (f : Nat) (a : Int) : getS y (.r f a.toNat) = rg y f a := by
 show (y.regs.getD f []).getD (((a.toNat : Nat) : Int)).toNat [] = _
 rw [A5r]; rfl
theorem b7g : getS y (.c o.toNat) = cl y o := by
 show y.cells.getD (((o.toNat : Nat) : Int)).toNat [] = _
 rw [A5r]; rfl
theorem Shp.at (hy : Shp p y) (hf : f < p.fu.length) : ∃ h : f < y.regs.length, y.regs[f].length = p.fu[f].regs.toNat := by
 have h1 : f < y.regs.length := by rw [hy.rn]; exact hf
 exact ⟨h1, by have := hy.fn f h1 hf; omega⟩
theorem Shp.rok (hy : Shp p y) (hf : f < p.fu.length) {a : Int} (ha : isR p.fu[f] a) : (SL.r f a.toNat).ok y := by
 obtain ⟨h1, h2⟩ := hy.at hf
 obtain ⟨h3, h4⟩ := ha
 refine ⟨h1, ?_⟩
 rw [A5m, A5n h1, A5z]
 omega
theorem Shp.cok (hy : Shp p y) (h0 : 0 <= o) (h1 : o < ((a0a p).length : Int)) : (SL.c o.toNat).ok y := by
 show o.toNat < y.cells.length
 rw [hy.cn]; omega
def rdC (f : Nat) (a : Int) (z : Pts) (o : Int) : Prop := subR (rg z f a) (cl z o)
def wrC (f : Nat) (a : Int) (z : Pts) (o : Int) : Prop := subR (cl z o) (rg z f a)
section
variable {m : Bool} {C C' D : Pts -> Prop} {Y Z Z2 : Pts} {g h h2 : Bool} {to fr : SL}
theorem TR.congr (H : TR m C C Y g Z h) (hk : ∀ z, C' z ↔ C z) : TR m C' C' Y g Z h := H.mono (hk Y).2 fun z _ => (hk z).1
theorem TR.stepk (H : TR m C C Y g Z h) (hT : TR m (inS to (getS Z fr)) (inS to (getS Z fr)) Z h Z2 h2) (hk : ∀ z, C' z ↔ C z /\ subR (getS z to) (getS z fr)) : TR m C' C' Y g Z2 h2 := by
 have h1 := H.comp (hT.mono (Dn := fun z => subR (getS z to) (getS z fr)) (Ds := fun z => subR (getS z to) (getS z fr)) (fun h => h) fun z hs hz q hq => hz q (hs.2 fr q hq))
 exact h1.congr hk
theorem TR.step1 (H : TR m C C Y g Z h) (hT : TR m (inS to [o]) (inS to [o]) Z h Z2 h2) (hk : ∀ z, C' z ↔ C z /\ subR (getS z to) [o]) : TR m C' C' Y g Z2 h2 := (H.comp hT).congr hk
end
def prC (f : Nat) (n : Ins) (nb k : Nat) (z : Pts) : Prop := ∀ j : Nat, j < k -> subR (rg z nb j) (rg z f (n.c + j))
theorem f4b (f : Nat) (n : Ins) (nb : Nat) (z : Pts) : prC f n nb 0 z := fun _ h => absurd h ya
theorem f4a (z : Pts) : prC f n nb (k + 1) z ↔ prC f n nb k z /\ subR (getS z (.r nb k)) (getS z (.r f (n.c + k).toNat)) := by
 have e1 : getS z (.r nb k) = rg z nb (k : Int) := rfl
 rw [a7u, e1]
 constructor
 . intro h; exact ⟨fun j hj => h j ya, h k ya⟩
 . rintro ⟨h1, h2⟩ j hj
   by_cases e : j = k
   . subst e; exact h2
   . exact h1 j ya
def rtC (f : Nat) (n : Ins) (nb : Nat) (code : List Ins) (k : Nat) (z : Pts) : Prop := ∀ j (hj : j < code.length), j < k -> code[j].op = 30 /\ 0 <= code[j].a -> subR (rg z f n.a) (rg z nb code[j].a)
theorem g6z (f : Nat) (n : Ins) (nb : Nat) (code : List Ins) (z : Pts) : rtC f n nb code 0 z := fun _ _ h => absurd h ya
theorem g6x (hk : k < code.length) (h30 : code[k].op = 30) (h0 : 0 <= code[k].a) (z : Pts) : rtC f n nb code (k + 1) z ↔ rtC f n nb code k z /\ subR (getS z (.r f n.a.toNat)) (getS z (.r nb code[k].a.toNat)) := by
 rw [a7u, a7u]
 constructor
 . intro h; exact ⟨fun j hj hjk => h j hj ya, h k hk ya ⟨h30, h0⟩⟩
 . rintro ⟨h1, h2⟩ j hj hjk hc
   by_cases e : j = k
   . subst e; exact h2
   . exact h1 j hj ya hc
theorem g6y (hk : k < code.length) (hno : ¬ (code[k].op = 30 /\ 0 <= code[k].a)) (z : Pts) : rtC f n nb code (k + 1) z ↔ rtC f n nb code k z := by
 constructor
 . intro h j hj hjk; exact h j hj ya
 . intro h j hj hjk hc
   by_cases e : j = k
   . subst e; exact absurd hc hno
   . exact h j hj ya hc
def b8d (f : Nat) (n : Ins) (nb np : Nat) (code : List Ins) (z : Pts) : Prop := prC f n nb np z /\ (n.op = 26 /\ 0 <= n.a -> rtC f n nb code code.length z)
theorem TR.callN {m : Bool} {np : Nat} {Z : Pts} {g h : Bool} (H : TR m (prC f n nb np) (prC f n nb np) Y g Z h) (hno : ¬ (n.op = 26 /\ 0 <= n.a)) : TR m (b8d f n nb np code) (b8d f n nb np code) Y g Z h :=
 H.congr fun z => ⟨fun h => h.1, fun h => ⟨h, fun hc => absurd hc hno⟩⟩
theorem TR.callY {m : Bool} {np : Nat} {Z Z2 : Pts} {g h h2 : Bool} (H : TR m (prC f n nb np) (prC f n nb np) Y g Z h) (H2 : TR m (rtC f n nb code code.length) (rtC f n nb code code.length) Z h Z2 h2) (hy : n.op = 26 /\ 0 <= n.a) : TR m (b8d f n nb np code) (b8d f n nb np code) Y g Z2 h2 :=
 (H.comp H2).congr fun z => ⟨fun h => ⟨h.1, h.2 hy⟩, fun h => ⟨h.1, fun _ => h.2⟩⟩
theorem a9e (h : sub y z) (f : Nat) (a : Int) : ∀ o ∈ rg y f a, o ∈ rg z f a := fun o ho => by
 have := h.2 (.r f a.toNat) o (by rw [a7u]; exact ho)
 rwa [a7u] at this
theorem f1o (h : sub y z) (hw : wrR p y o = true) : wrR p z o = true := by
 simp only [wrR, A5w] at hw ⊢
 obtain ⟨i, hi, n, hn, hw⟩ := hw
 exact ⟨i, hi, n, hn, hw.imp (fun ⟨a, b⟩ => ⟨a, a9e h _ _ _ b⟩) fun ⟨a, b⟩ => ⟨a, a9e h _ _ _ b⟩⟩
theorem e4x {k : Int} (h0 : 0 <= k) (h1 : k < (fs.length : Int)) (h2 : a4d fs k = 1) : k ∈ oneP fs fs.length := by
 unfold oneP
 rw [A1t]
 refine ⟨k.toNat, ?_, by omega⟩
 rw [A4n, A2k]
 refine ⟨by omega, ?_⟩
 have : ((k.toNat : Nat) : Int) = k := by omega
 rw [this, h2]; rfl
theorem b2r (hp : VOk p) (h : sub y z) : ∀ k ∈ a2q p y o, k ∈ a2q p z o := fun k hk => by
 obtain ⟨h0, h1, h2⟩ := c1o hp hk
 have hin := e4x h0 h1 h2
 unfold a2q at hk ⊢
 rw [h.1]
 generalize (if 0 < o then b4r p (y.sites.getD o.toNat (0, 0)) else ins0) = n at hk ⊢
 dsimp only at hk ⊢
 by_cases e : n.op = 23
 . rw [if_pos e] at hk; cases hk
 . rw [if_neg e] at hk ⊢
   by_cases e2 : n.op = 24 /\ wrR p z o = false
   . have e3 : n.op = 24 /\ wrR p y o = false := ⟨e2.1, by
      cases hw : wrR p y o
      . rfl
      . rw [f1o h hw] at e2; exact absurd e2.2 yd⟩
     rw [if_pos e3] at hk
     rw [if_pos e2]; exact hk
   . rw [if_neg e2]; exact hin
def fcC (o : Int) (fs : List Int) (k : Nat) (z : Pts) : Prop := ∀ j (hj : j < fs.length), j < k -> subR (rg z fs[j].toNat 0) [o]
theorem g8u (o : Int) (fs : List Int) (z : Pts) : fcC o fs 0 z := fun _ _ h => absurd h ya
theorem g8t {fs : List Int} (hk : k < fs.length) (z : Pts) : fcC o fs (k + 1) z ↔ fcC o fs k z /\ subR (getS z (.r fs[k].toNat 0)) [o] := by
 have e : getS z (.r fs[k].toNat 0) = rg z fs[k].toNat 0 := rfl
 rw [e]
 constructor
 . intro h; exact ⟨fun j hj hjk => h j hj ya, h k hk ya⟩
 . rintro ⟨h1, h2⟩ j hj hjk
   by_cases e : j = k
   . subst e; exact h2
   . exact h1 j hj ya
def ccC (p : Pg) (z : Pts) (o : Int) : Prop := ∀ k ∈ a2q p z o, subR (rg z k.toNat 0) [o]
theorem fc_s (hp : VOk p) (h : sub y z) (hc : ccC p z o) : fcC o (a2q p y o) (a2q p y o).length z := fun j hj _ => hc _ (b2r hp h _ (A5p hj))
theorem fc_n (hc : fcC o (a2q p y o) (a2q p y o).length y) : ccC p y o := fun k hk => by
 obtain ⟨j, hj, rfl⟩ := A0g hk
 exact hc j hj hj
def ckC (f : Nat) (a : Int) (O k : Nat) (z : Pts) : Prop := ∀ i : Nat, i < k -> subR (cl z (O : Int)) (rg z f (a + (i + 1)))
theorem g9f (f : Nat) (a : Int) (O : Nat) (z : Pts) : ckC f a O 0 z := fun _ h => absurd h ya
theorem g9e {a : Int} {O : Nat} (z : Pts) : ckC f a O (k + 1) z ↔ ckC f a O k z /\ subR (getS z (.c O)) (getS z (.r f (a + (k + 1)).toNat)) := by
 have e : getS z (.c O) = cl z (O : Int) := rfl
 rw [a7u, e]
 constructor
 . intro h; exact ⟨fun j hj => h j ya, h k ya⟩
 . rintro ⟨h1, h2⟩ j hj
   by_cases e : j = k
   . subst e; exact h2
   . exact h1 j ya
def ldd (f r c : Nat) : SL -> Bool
 | .r g a => decide (g < f \/ (g = f /\ a < r))
 | .c o => decide (o < c)
structure Ld (p : Pg) (x : Pts) (f r c : Nat) (Y : Pts) : Prop where
 shp : Shp p Y
 at' : ∀ t, getS Y t = if ldd f r c t then getS x t else []
theorem Ld.setR {r : Nat} (h : Ld p x f r 0 Y) (ht : (SL.r f r).ok Y) (hs : okA (a0a p).length (getS x (.r f r))) : Ld p x f (r + 1) 0 (setS Y (.r f r) (getS x (.r f r))) := by
 refine ⟨h.shp.set ht hs, fun t => ?_⟩
 rw [b2q ht]
 by_cases e : SL.r f r = t
 . subst e; simp [ldd]
 . rw [if_neg e, h.at']
   cases t with
   | r g a =>
     have : ¬ (g = f /\ a = r) := fun ⟨h1, h2⟩ => e (by rw [h1, h2])
     have e1 : ldd f (r + 1) 0 (.r g a) = ldd f r 0 (.r g a) := decide_eq_decide.2 ya
     rw [e1]
   | c o => rfl
theorem Ld.setC {o : Nat} (h : Ld p x f 0 o Y) (ht : (SL.c o).ok Y) (hs : okA (a0a p).length (getS x (.c o))) : Ld p x f 0 (o + 1) (setS Y (.c o) (getS x (.c o))) := by
 refine ⟨h.shp.set ht hs, fun t => ?_⟩
 rw [b2q ht]
 by_cases e : SL.c o = t
 . subst e; simp [ldd]
 . rw [if_neg e, h.at']
   cases t with
   | r g a => rfl
   | c q =>
     have : q ≠ o := fun h1 => e (by rw [h1])
     have e1 : ldd f 0 (o + 1) (.c q) = ldd f 0 o (.c q) := decide_eq_decide.2 ya
     rw [e1]
theorem e6i {g a : Nat} (h : (x.regs.getD g []).length <= a) : getS x (.r g a) = [] := by
 simp only [getS, rg, A5r]
 rw [A5m, A5y h]; rfl
theorem Ld.next {r : Nat} (h : Ld p x f r 0 Y) (hr : (x.regs.getD f []).length <= r) : Ld p x (f + 1) 0 0 Y := ⟨h.shp, fun t => by
 rw [h.at']
 cases t with
 | r g a =>
   by_cases e : g = f
   . subst e
     by_cases h1 : a < r
     . simp [ldd, h1]
     . have : getS x (.r g a) = [] := e6i ya
       simp [ldd, h1, this]
   . have e1 : ldd (f + 1) 0 0 (.r g a) = ldd f r 0 (.r g a) := decide_eq_decide.2 ya
     rw [e1]
 | c o => rfl⟩
end Go.Gv
namespace Go.Gv
open Go Go.Lib
variable {l : List (List UInt8)}
theorem d5j (l : List (List UInt8)) : (l.mergeSort fun x y => decide (x <= y)).Pairwise (fun a b => a <= b) := by
 have := List.pairwise_mergeSort (le := fun (x y : List UInt8) => decide (x <= y)) (by
  intro a b c h1 h2
  simp only [A5w] at h1 h2 ⊢
  exact List.le_trans h1 h2) (by
  intro a b
  simpa using List.le_total a b) l
 exact this.imp (by intro a b h; simpa using h)
theorem c3m (hs : l.Pairwise (fun a b => a <= b)) (h : ∀ j, j < l.length -> keeps l.toArray j = true) : l.Nodup := by
 refine A5b.mpr ?_
 intro i j hi hj hij he
 have hk := h (i + 1) ya
 have hs' := A5b.mp hs
 simp only [keeps, A5w, A3p] at hk
 have e1 : l.toArray[i + 1]! = l[i + 1]'ya := by simp [getElem!_pos, show i + 1 < l.length by omega]
 have e2 : l.toArray[i]! = l[i]'ya := by simp [getElem!_pos, hi]
 rw [e1, e2] at hk
 rcases hk with hk | hk
 . omega
 apply hk
 refine List.le_antisymm ?_ (hs' i (i + 1) ya ya ya)
 by_cases hij' : i + 1 = j
 . subst hij'; rw [<- he]; exact List.le_refl _
 . have := hs' (i + 1) j ya hj ya
   rw [he]; exact this
theorem c6b (h : l.Nodup) : ∀ j, j < l.length -> keeps l.toArray j = true := by
 intro j hj
 simp only [keeps, A5w]
 by_cases h0 : j = 0
 . exact .inl h0
 . right
   have e1 : l.toArray[j]! = l[j] := by simp [getElem!_pos, hj]
   have e2 : l.toArray[j - 1]! = l[j - 1]'ya := by simp [getElem!_pos, show j - 1 < l.length by omega]
   rw [e1, e2]
   exact fun e => A5b.mp h (j - 1) j ya hj ya e.symm
theorem c6x (hs : l.Pairwise (fun a b => a <= b)) : (compact l).length = l.length ↔ l.Nodup := by
 constructor
 . intro h
   refine c3m hs fun j hj => ?_
   have h2 : ((List.range l.length).filter (keeps l.toArray)).length = (List.range l.length).length := by simpa [compact, compactUpTo] using h
   exact List.filter_eq_self.mp (List.filter_sublist.eq_of_length h2) j (by simpa using hj)
 . intro h
   rw [compact_all l (c6b h)]
theorem f1z (l : List (List UInt8)) : (!(decide ([] ∈ l)) && decide ((compact (l.mergeSort fun x y => decide (x <= y))).length = l.length)) = uniq l := by
 have hp := A4g l (fun x y => decide (x <= y))
 have h1 := c6x (d5j l)
 rw [hp.length_eq] at h1
 rw [hp.nodup_iff] at h1
 simp only [uniq, h1, Bool.and_comm, <- decide_not]
end Go.Gv
namespace Go.Je
open Go Go.RowKit Go.Proofs Go.Shelf Go.Sort
abbrev srtB (ss : List (List UInt8)) : List (List UInt8) := ss.mergeSort fun x y => decide (x <= y)
def toB (l : List (List UInt8)) : List ByteArray := l.map fun x => ⟨x.toArray⟩
theorem srBl (ss : List (List UInt8)) : (srtB ss).length = ss.length := List.length_mergeSort ss
theorem e8y {w : World} {g : Nat} {l : List (List UInt8)} (h : Holds encStr w g 0 l.toArray) : ∀ j, j < (toB l).length -> w.cell? ⟨g, 0 + j, none⟩ = some (.string ((toB l).getD j ByteArray.empty)) := by
 intro j hj
 have hj' : j < l.length := by simpa [toB] using hj
 rw [(h j (by simpa using hj')).1]
 have : l.toArray[j]! = l[j] := by simp [getElem!_pos, hj']
 rw [this]
 simp [toB, A5m, A5n hj', encStr]
theorem b4m (l : List (List UInt8)) (n : Nat) (hn : l.length = n) : Lib.containsS ((toB l).take n) ⟨#[]⟩ = decide ([] ∈ l) := by
 rw [A2n, Lib.containsS_iff, A6a (by simp [toB, hn])]
 simp only [toB, A1t, A5w]
 constructor
 . rintro ⟨x, hx, h⟩
   have : x = [] := by simpa using congrArg (fun b : ByteArray => b.data.toList) h
   rwa [this] at hx
 . intro h; exact ⟨[], h, rfl⟩
theorem f1y {ss : List (List UInt8)} (h : [] ∈ srtB ss) : Gv.uniq ss = false := by
 have := (A4g ss (fun x y => decide (x <= y))).mem_iff.mp h
 simp [Gv.uniq, this]
theorem e3c {ss : List (List UInt8)} (h : ¬ [] ∈ srtB ss) {n : Nat} (hn : ss.length = n) : decide (((Lib.compact (srtB ss)).length : Int) = (n : Int)) = Gv.uniq ss := by
 have h' : ¬ [] ∈ ss := fun e => h ((A4g ss (fun x y => decide (x <= y))).mem_iff.mpr e)
 rw [<- Gv.f1z]
 simp [h', hn, Int.ofNat_inj]
def UX (w w1 : World) (g cap n : Nat) (ss : List (List UInt8)) : Prop :=
 Go.RowKit.Below w.heap.size w w1 /\ w.heap.size <= g /\ g < w1.heap.size /\ n <= cap /\ ss.length = n /\ Holds encStr w1 g 0 ss.toArray
theorem b5z (A : Option Addr) (n c : Nat) (ss : List (List UInt8)) (w : World) (hn : n <= 4611686018427387903)
 (hclone : Calls Tryz.prog 125 #[.slice A n c] w fun e w' => ∃ v', e = .returned v' /\ w'.ownsRow w.heap.size 9 1 v' n (ss.map encStr) /\ v' ≠ .slice none 0 0 /\ Go.RowKit.Below w.heap.size w w') :
 Calls Tryz.prog 77 #[.slice A n c] w fun e w' => e = .returned (.bool (Gv.uniq ss)) /\ Go.RowKit.Below w.heap.size w w' := by
 by_cases hm : [] ∈ srtB ss
 . have hu := f1y hm
   go_enter Tryz.func77, Tryz.ntmps77
   go_wp2_with (first
    | (go_at_call 125; refine hclone.mono ?_; rintro e w1 ⟨v1, rfl, hown, hnn, hbel⟩
       obtain ⟨g, cap, rfl, hbg, hgl, hncap, hcm, hlen, hH⟩ := Lib.holds_of_ownsRow hown hnn
       have hsort : Calls Tryz.prog 126 _ _ _ := Any.slices_Sort_string uL2 g 0 cap ss w1 hH hgl ya
       rw [hlen] at hsort
       have X : Aside (UX w w1 g cap n ss) := ⟨hbel, hbg, hgl, hncap, hlen, hH⟩
       clear hown hbel hH hnn)
    | (go_at_call 126; refine hsort.mono ?_; rintro e w2 ⟨rfl, nn, os, rfl⟩
       have hl2 : (srtB ss).length = n := by rw [srBl]; exact X.out.2.2.2.2.1
       have hH2 : Holds encStr (grow (putRow encStr (Sort.ahead w1 nn) g 0 (srtB ss).toArray) os) g 0 (srtB ss).toArray :=
        holds_grow encStr _ os g 0 _ z4b (holds_putRow encStr _ g 0 _ _ (holds_ahead encStr w1 nn g 0 _ X.out.2.2.2.2.2) yd)
       have hcont : Calls Tryz.prog 127 _ _ _ := Any.slices_Contains_string uL4 g 0 n cap (toB (srtB ss)) ⟨#[]⟩ _ (by simp [toB, hl2]) ya (e8y hH2)
       rw [b4m _ _ hl2, decide_eq_true hm] at hcont
       clear hH2 hsort)
    | (go_at_call 127; refine hcont.mono ?_; rintro e w3 ⟨rfl, rfl⟩))
   go_ret
   exact ⟨by rw [hu]; rfl, X.out.1.grown (grownBy_sorted _) X.out.1.size (fun j hj => by cases hj; exact X.out.2.1)⟩
 . have hu := fun (h : ss.length = n) => e3c hm h
   go_enter Tryz.func77, Tryz.ntmps77
   go_wp2_with (first
    | (go_at_call 125; refine hclone.mono ?_; rintro e w1 ⟨v1, rfl, hown, hnn, hbel⟩
       obtain ⟨g, cap, rfl, hbg, hgl, hncap, hcm, hlen, hH⟩ := Lib.holds_of_ownsRow hown hnn
       have hsort : Calls Tryz.prog 126 _ _ _ := Any.slices_Sort_string uL2 g 0 cap ss w1 hH hgl ya
       rw [hlen] at hsort
       have X : Aside (UX w w1 g cap n ss) := ⟨hbel, hbg, hgl, hncap, hlen, hH⟩
       clear hown hbel hH hnn)
    | (go_at_call 126; refine hsort.mono ?_; rintro e w2 ⟨rfl, nn, os, rfl⟩
       have hl2 : (srtB ss).length = n := by rw [srBl]; exact X.out.2.2.2.2.1
       have hH2 : Holds encStr (grow (putRow encStr (Sort.ahead w1 nn) g 0 (srtB ss).toArray) os) g 0 (srtB ss).toArray :=
        holds_grow encStr _ os g 0 _ z4b (holds_putRow encStr _ g 0 _ _ (holds_ahead encStr w1 nn g 0 _ X.out.2.2.2.2.2) yd)
       have hcont : Calls Tryz.prog 127 _ _ _ := Any.slices_Contains_string uL4 g 0 n cap (toB (srtB ss)) ⟨#[]⟩ _ (by simp [toB, hl2]) ya (e8y hH2)
       rw [b4m _ _ hl2, decide_eq_false hm] at hcont
       have hcomp : Calls Tryz.prog 128 _ _ _ := Any.slices_Compact_string uL3 g 0 cap (srtB ss) _ hH2 ya (by rw [hl2]; exact X.out.2.2.2.1)
       rw [hl2] at hcomp
       clear hH2 hsort)
    | (go_at_call 127; refine hcont.mono ?_; rintro e w3 ⟨rfl, rfl⟩)
    | (go_at_call 128; refine hcomp.mono ?_; rintro e w3 ⟨rfl, q, rfl⟩))
   go_ret
   exact ⟨by rw [<- hu X.out.2.2.2.2.1]; rfl, Lib.below_putRow (X.out.1.grown (grownBy_sorted _) X.out.1.size (fun j hj => by cases hj; exact X.out.2.1)) X.out.2.1⟩
theorem d2d (c : Nat) (w : World) : Calls Tryz.prog 77 #[.slice none 0 c] w fun e w' => e = .returned (.bool true) /\ w' = w := by
 have hclone : Calls Tryz.prog 125 #[.slice none 0 c] w _ := Any.slices_Clone_string_nil uL1 0 c w
 have hsort : Calls Tryz.prog 126 #[.slice none 0 0] w _ := calls_of_every_depth fun D => AnyS.slices_Sort_string_none_in uL2 D none 0 w
 have hcont : Calls Tryz.prog 127 #[.slice none 0 0, .string ⟨#[]⟩] w _ := Any.slices_Contains_string_empty uL4 none 0 ⟨#[]⟩ w
 have hcomp : Calls Tryz.prog 128 #[.slice none 0 0] w _ := Any.slices_Compact_string_empty uL3 none 0 w
 go_enter Tryz.func77, Tryz.ntmps77
 go_wp2_with (first
  | (go_at_call 125; refine hclone.mono ?_; rintro e w' ⟨rfl, rfl⟩)
  | (go_at_call 126; refine hsort.mono ?_; rintro e w' ⟨rfl, rfl⟩)
  | (go_at_call 127; refine hcont.mono ?_; rintro e w' ⟨rfl, rfl⟩)
  | (go_at_call 128; refine hcomp.mono ?_; rintro e w' ⟨rfl, rfl⟩))
 go_ret
 exact ⟨rfl, rfl⟩
end Go.Je
