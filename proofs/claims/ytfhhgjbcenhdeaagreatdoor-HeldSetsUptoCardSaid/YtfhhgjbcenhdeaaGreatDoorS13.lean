/- Part. -/
import Derived.Test.YtfhhgjbcenhdeaaGreatDoorS11
import Derived.Lib.SlicesCompact
import Derived.Lib.TrailingZeros
set_option linter.all false
set_option maxRecDepth 100000
set_option maxHeartbeats 0
namespace Go.Je
open Go Go.FM Go.Gv Go.Proofs
theorem c66e (p : Pg) (f : FnD) (x : Ins) (o : Int) (ho : x.op = o) (hc : f.code.length <= 2000000) (hf : p.fu.length <= 2000000) (hg : p.gl.length <= 2000000) (hl : p.la.length <= 2000000) : Pq 86 [PA p, .agg [.str f.name, .int .i64 f.params, .int .i64 f.regs, .list 5 (inss f.code)], .agg [.int .i64 o, .int .i64 x.a, .int .i64 x.b, .int .i64 x.c, .int .i64 x.d]] (.bool (a7t p f x)) := by subst ho; exact c66 p f x hc hf hg hl
theorem c38 (p : Pg) (f : FnD) (hc : f.code.length <= 2000000) (hf : p.fu.length <= 2000000) (hg : p.gl.length <= 2000000) (hl : p.la.length <= 2000000) : Pq 46 [PA p, .agg [.str f.name, .int .i64 f.params, .int .i64 f.regs, .list 5 (inss f.code)]] (.bool (fnR p f)) := by
 have w1 := wl f.code.length ya
 rcases e1g f.name with ⟨m1, m2⟩ | ⟨m1, m2⟩
 all_goals rcases d1d f.code with hn | ⟨hn, n1, z, n2, n3, n4⟩
 all_goals
  refine zw Tryz.f46 [.tmp 4] 9 90 [] ?_
  repeat' first
   | (refine yi ?_; refine a5f (fun y : {y : Nat × Int // y.1 <= f.code.length /\ b1l p f f.code 0 = b1l p f (f.code.drop y.1) y.2} => (⟨[PA p, .agg [.str f.name, .int .i64 f.params, .int .i64 f.regs, .list 5 (inss f.code)], .ptr [2] 4 0 0, .ptr [3] 4 0 0, .bool false, .undef, .int .i64 y.1.2, .int .i64 (y.1.1 : Int), .undef], [], hpL [([2], .cells 26 4 [[.list 4 (fns p.fu), .list 2 (gbs p.gl), .list 1 (lays p.la), .int .i64 p.main]]), ([3], .cells 35 4 [[.str f.name, .int .i64 f.params, .int .i64 f.regs, .list 5 (inss f.code)]])], []⟩ : Fs)) (fun y => f.code.length - y.1.1) ⟨(0, 0), by simp⟩ yg1 ?_; rintro ⟨⟨i, e⟩, hi, hk⟩; (try dsimp only at hi hk); have hk2 := hk; rcases a0c hi with hlt | ⟨hlt, rfl⟩; rotate_left; rw [d0z, b1l] at hk2; rotate_left; focus (rw [e5j hlt] at hk2; have wi := wli hlt ya; by_cases h51 : f.code[i].op = 51; all_goals by_cases he : 0 < e; all_goals by_cases h50 : f.code[i].op = 50))
   | (refine ye ?_; refine a0b (⟨(i + 1, W (e - 1)), by dsimp only; omega, by dsimp only; rw [hk2]; simp [*]⟩) wn yf)
   | (refine ye ?_; refine a0b (⟨(i + 1, f.code[i].b), by dsimp only; omega, by dsimp only; rw [hk2]; simp [*]⟩) wn yf)
   | (refine ye ?_; refine a0b (⟨(i + 1, e), by dsimp only; omega, by dsimp only; rw [hk2]; simp [*]⟩) wn yf)
   | with_reducible first | refine wd ?_ | refine stpK ?_; intro K hK | refine stpC ?_; intro T E hT hE | refine stp2 ?_ ?_ <;> intro h | refine a1v (c66 p f _ hc hf hg hl) yr ?_ | refine hpc (c66 p f _ hc hf hg hl) yr ?_ | refine a1v (c66e p f f.code[i] _ h51 hc hf hg hl) yr ?_ | refine hpc (c66e p f f.code[i] _ h51 hc hf hg hl) yr ?_ | refine a1v (c66e p f f.code[i] _ h50 hc hf hg hl) yr ?_ | refine hpc (c66e p f f.code[i] _ h50 hc hf hg hl) yr ?_ | refine yg ?_; clear hK K | refine yh ?_; clear hT hE T E
   | simp [*, -List.all_flatten, -List.all_eq_true, DEFO, -Bool.decide_and, eqV, z1c, a0j, Ins.row, FnD.row, Gb.row, a0v, A1w, A1y]
  all_goals first
   | (simp_all [fnR, FnD.nm, a8y, a8s, btw, W]; done)
   | (rw [<- A2g]; intro hh; simp [fnR, FnD.nm, a8y, a8s, btw, *] at hh <;> omega)
   | (clear hk; simp_all [fnR, FnD.nm, a8y, a8s, btw, W]; done)
   | (clear hk; rw [<- A2g]; intro hh; simp [fnR, FnD.nm, a8y, a8s, btw, *] at hh <;> omega)
   | (clear hk; have q1 : f.code.length <= 1000 := ya; have q2 : f.regs <= 64 := ya; have q3 : 0 <= f.params := ya; have q4 : f.params <= f.regs := ya; simp [fnR, FnD.nm, a8y, a8s, btw, W, *]; done)
end Go.Je
namespace Go.Gv
open Go Go.FM
variable {D : Nat -> Prop} {c : List Ins} {i v : Nat} {m : Bool}
def rW (r v : Int) : List Int := if r = 100 \/ (r = 68 /\ 0 <= v) then [v] else []
def dfI (n : Ins) : List Int := rW (rR n.op).1 n.a ++ (rW (rR n.op).2.1 n.b ++ rW (rR n.op).2.2 n.c)
def dfL (n : Ins) : List Int := (dfI n).foldl a0r []
def wrB (n : Ins) (r : Int) : Bool := (decide (n.op = 51) && (decide (n.b = 0) && decide (n.c = r))) || decide (r ∈ dfL n)
def usB (c : List Ins) (r : Int) (a : Nat) : Nat -> Int
 | 0 => -1
 | i + 1 => if i < a then -1 else match c[i]? with
   | none => -1
   | some n => if wrB n r then (if n.op = 18 then n.b else -1) else usB c r a i
def lkO (n : Int) : Bool := decide (n = 39) || decide (n = 40)
def usC (c : List Ins) (i : Nat) : Int := match c[i]? with
 | none => -1
 | some n => if lkO n.op then usB c n.a (stF c i) i else -1
theorem d4h {r : Int} {a : Nat} (h : i <= a) : usB c r a i = -1 := by
 cases i with
 | zero => rfl
 | succ i => rw [usB, if_pos ya]
theorem f9d {r : Int} {a : Nat} (h : i < c.length) (ha : a <= i) : usB c r a (i + 1) = if wrB c[i] r then (if c[i].op = 18 then c[i].b else -1) else usB c r a i := by
 rw [usB, if_neg ya, A5n h]
theorem c7p (h : i < c.length) : usC c i = if lkO c[i].op then usB c c[i].a (stF c i) i else -1 := by
 unfold usC
 rw [A5n h]
theorem e8x {c : List Ins} {r : Int} {a : Nat} : ∀ i, usB c r a i = -1 \/ ∃ j, ∃ hj : j < c.length, c[j].op = 18 /\ usB c r a i = c[j].b
 | 0 => .inl rfl
 | i + 1 => by
   unfold usB
   split
   . exact .inl rfl
   . split
     . exact .inl rfl
     . rename_i n hn
       obtain ⟨hi, rfl⟩ := A0q.1 hn
       split
       . split
         . rename_i e
           exact .inr ⟨i, hi, e, rfl⟩
         . exact .inl rfl
       . exact e8x i
theorem e8w {p : Pg} (hp : VOk p) {f : FnD} (hf : f ∈ p.fu) (i : Nat) : -1 <= usC f.code i /\ usC f.code i < (p.gl.length : Int) := by
 have key : ∀ r a, -1 <= usB f.code r a i /\ usB f.code r a i < (p.gl.length : Int) := fun r a => by
  rcases e8x (c := f.code) (r := r) (a := a) i with h | ⟨j, hj, h1, h2⟩
  . omega
  . have := (hp.ins f hf _ (A5p hj)).b
    rw [h1] at this
    simp [opR, rR] at this
    omega
 unfold usC
 split
 . omega
 . split
   . exact key _ _
   . omega
theorem opA (h : i < c.length) : opAt c (i : Int) = c[i].op := by simp [opAt, A5n h]
variable {N : Nat}
def aftB (n : Ins) (u : Int) (s : BitVec N) : BitVec N := if 0 <= u then (if n.op = 39 then s ||| BitVec.twoPow N u.toNat else s &&& ~~~BitVec.twoPow N u.toNat) else s
theorem c2m {n : Ins} {u : Int} {s : BitVec N} (hv : v < N) : (aftB n u s).getLsbD v = if u = (v : Int) then decide (n.op = 39) else s.getLsbD v := by
 unfold aftB
 split
 . rename_i h0
   split
   . rename_i h1
     rw [BitVec.getLsbD_or, A2l]
     by_cases e : u = (v : Int)
     . subst e; simp [hv, h1]
     . have : ¬ u.toNat = v := by omega
       simp [e, this]
   . rename_i h1
     rw [A1k, A5h, A2l]
     by_cases e : u = (v : Int)
     . subst e; simp [hv, h1]
     . have : ¬ u.toNat = v := by omega
       simp [e, this, hv]
 . rw [if_neg ya]
def cntB (s : BitVec N) : Nat := ((List.range N).filter fun v => s.getLsbD v).length
theorem c4r {s t : BitVec N} (h : ∀ v, v < N -> s.getLsbD v = t.getLsbD v) : s = t := BitVec.eq_of_getLsbD_eq fun i hi => h i hi
theorem e0a : ∀ (l : List Nat) (f g : Nat -> Bool), (∀ v ∈ l, f v = true -> g v = true) -> (l.filter f).length <= (l.filter g).length /\ ((l.filter f).length = (l.filter g).length -> ∀ v ∈ l, f v = g v)
 | [], _, _, _ => ⟨A5s _, fun _ v h => by cases h⟩
 | a :: l, f, g, h => by
   obtain ⟨h1, h2⟩ := e0a l f g fun v hv => h v (A2t _ hv)
   have h0 := h a yd
   cases hf : f a <;> cases hg : g a
   . rw [A4t (by simp [hf]), A4t (by simp [hg])]
     refine ⟨h1, fun e v hv => ?_⟩
     rcases A0m.1 hv with rfl | hv
     . rw [hf, hg]
     . exact h2 e v hv
   . rw [A4t (by simp [hf]), A4s (by simp [hg]), A1a]
     exact ⟨by omega, fun e => by omega⟩
   . rw [h0 hf] at hg; cases hg
   . rw [A4s (by simp [hf]), A4s (by simp [hg]), A1a, A1a]
     refine ⟨by omega, fun e v hv => ?_⟩
     rcases A0m.1 hv with rfl | hv
     . rw [hf, hg]
     . exact h2 ya v hv
theorem e0z {x o : BitVec N} (h : x &&& o ≠ x) : cntB (x &&& o) < cntB x := by
 obtain ⟨h1, h2⟩ := e0a (List.range N) (fun v => (x &&& o).getLsbD v) (fun v => x.getLsbD v) fun v _ hv => by
  simp only [A1k, A5t] at hv
  exact hv.1
 unfold cntB
 rcases A0r ((List.range N).filter fun v => (x &&& o).getLsbD v).length ((List.range N).filter fun v => x.getLsbD v).length with h3 | h3
 . exact h3
 . exact absurd (c4r fun v hv => h2 ya v (by simpa using hv)) h
theorem f7z {x o : BitVec N} (h : x &&& o = x) (hv : x.getLsbD v = true) : o.getLsbD v = true := by
 rw [<- h, A1k, A5t] at hv
 exact hv.2
def d3t (N : Nat) (c : List Ins) (X : Nat -> Nat -> Prop) : Prop :=
 (∀ v, ¬ X 0 v) /\ (∀ i v, X i v -> Rc c i /\ v < N) /\ ∀ i (hi : i < c.length), Rc c i -> ∀ w ∈ nx c i, ∀ v, X w.toNat v -> (if usC c i = (v : Int) then c[i].op = 39 else X i v)
def Hd (N : Nat) (c : List Ins) (i v : Nat) : Prop := ∃ X, d3t N c X /\ X i v
theorem Hd.post (N : Nat) (c : List Ins) : d3t N c (Hd N c) := by
 refine ⟨fun v ⟨X, h, hx⟩ => h.1 v hx, fun i v ⟨X, h, hx⟩ => h.2.1 i v hx, fun i hi hr w hw v ⟨X, h, hx⟩ => ?_⟩
 have := h.2.2 i hi hr w hw v hx
 split
 . rename_i e; rw [if_pos e] at this; exact this
 . rename_i e; rw [if_neg e] at this; exact ⟨X, h, this⟩
theorem Hd.used (hc : CodeOk c) (h : Hd N c i v) : ∃ j, usC c j = (v : Int) := by
 obtain ⟨X, hp, hx⟩ := h
 have hr := (hp.2.1 i v hx).1
 have : ∀ i, Rc c i -> X i v -> ∃ j, usC c j = (v : Int) := fun i hi => by
  induction hi with
  | zero => intro h; exact absurd h (hp.1 v)
  | @step i w h1 h2 ih =>
    intro h
    have := hp.2.2 i (h1.lt hc) h1 w h2 v h
    split at this
    . rename_i e; exact ⟨i, e⟩
    . exact ih this
 exact this i hr hx
def edB (o : BitVec N) (s : List (BitVec N) × Bool) (w : Int) : List (BitVec N) × Bool := match s.1[w.toNat]? with
 | none => s
 | some x => if x &&& o = x then s else (s.1.set w.toNat (x &&& o), true)
def edsB (o : BitVec N) (s : List (BitVec N) × Bool) (l : List Int) : List (BitVec N) × Bool := l.foldl (edB o) s
theorem c4j (o : BitVec N) (s : List (BitVec N) × Bool) {l : List Int} {k : Nat} (h : k < l.length) : edsB o s (l.take (k + 1)) = edB o (edsB o s (l.take k)) l[k] := by
 unfold edsB
 rw [A0n h, A0z]
 rfl
def szG (c : List Ins) (g : List (BitVec N)) : Nat := ((List.range c.length).map fun (i : Nat) => if opAt c ((i : Nat) : Int) = 51 then 0 else cntB (g.getD i 0)).sum
structure Hin (N : Nat) (c : List Ins) (g : List (BitVec N)) : Prop where
 len : g.length = c.length
 up : ∀ X, d3t N c X -> ∀ i v, X i v -> (g.getD i 0).getLsbD v = true
 no : ∀ i, i < c.length -> ¬ Rc c (hd c i) -> g.getD i 0 = 0
 h0 : g.getD 0 0 = 0
def HC (c : List Ins) (g r : List (BitVec N)) (m : Bool) : Prop := (m = false -> ∀ i, i < c.length -> opAt c (i : Int) ≠ 51 -> r.getD i 0 = g.getD i 0) /\ (m = true -> szG c r < szG c g) /\ szG c r <= szG c g
theorem HC.refl (c : List Ins) (g : List (BitVec N)) : HC c g g false := ⟨fun _ _ _ _ => rfl, fun h => zr, A5s _⟩
theorem HC.trans {g r q : List (BitVec N)} {m' : Bool} (h : HC c g r m) (h' : HC c r q m') : HC c g q (m' || m) := by
 refine ⟨fun e i hi ho => ?_, fun e => ?_, A0a h'.2.2 h.2.2⟩
 . simp only [Bool.or_eq_false_iff] at e
   rw [h'.1 e.1 i hi ho, h.1 e.2 i hi ho]
 . have := h.2.2; have := h'.2.2
   cases m'
   . have := h.2.1 z1p; omega
   . have := h'.2.1 rfl; omega
theorem a5h {g : List (BitVec N)} {j : Nat} (h : i < g.length) {x : BitVec N} : (g.set i x).getD j 0 = if i = j then x else g.getD j 0 := by
 rw [A5m, A3f]
 by_cases e : i = j
 . subst e; rw [if_pos rfl, if_pos h, if_pos rfl]; rfl
 . rw [if_neg e, if_neg e, A5m]
theorem d5f {g : List (BitVec N)} (hl : g.length = c.length) (hi : i < c.length) {x : BitVec N} : (opAt c (i : Int) = 51 -> szG c (g.set i x) = szG c g) /\ (opAt c (i : Int) ≠ 51 -> szG c (g.set i x) + cntB (g.getD i 0) = szG c g + cntB x) := by
 have := d5g c.length (fun (j : Nat) => if opAt c (j : Int) = 51 then 0 else cntB (g.getD j 0)) (fun (j : Nat) => if opAt c (j : Int) = 51 then 0 else cntB ((g.set i x).getD j 0)) i hi fun j hj => by
  rw [a5h ya, if_neg (A4f hj)]
 simp only [a5h (show i < g.length by omega), if_true] at this
 unfold szG
 refine ⟨fun e => ?_, fun e => ?_⟩
 . simp only [e, if_true] at this
   simp only [a5h (show i < g.length by omega)]
   omega
 . simp only [e, if_false] at this
   simp only [a5h (show i < g.length by omega)]
   omega
theorem g8z (hc : CodeOk c) {g : List (BitVec N)} {g0 : List (BitVec N)} (hI : Hin N c g) (hC : HC c g0 g m) (hr : Rc c i) {w : Int} (hw : w ∈ nx c i) {o : BitVec N}
 (ho : ∀ X, d3t N c X -> ∀ v, X w.toNat v -> o.getLsbD v = true) :
 Hin N c (edB o (g, m) w).1 /\ HC c g0 (edB o (g, m) w).1 (edB o (g, m) w).2 /\ ((edB o (g, m) w).2 = false -> m = false /\ (edB o (g, m) w).1 = g /\ (g.getD w.toNat 0) &&& o = g.getD w.toNat 0) := by
 obtain ⟨h1, h2, h3⟩ := a7e hc hw
 have hrw : Rc c w.toNat := hr.step hw
 have hl : w.toNat < g.length := by rw [hI.len]; exact h2
 unfold edB
 simp only [A5n hl]
 have hD : g.getD w.toNat 0 = g[w.toNat] := by rw [A5m, A5n hl]; rfl
 split
 . rename_i e
   exact ⟨hI, hC, fun hm => ⟨hm, rfl, by rw [hD]; exact e⟩⟩
 . rename_i e
   have ho51 : opAt c (w.toNat : Int) ≠ 51 := by rw [opA h2]; exact h3
   refine ⟨⟨by rw [A0h]; exact hI.len, fun X hX j v hv => ?_, fun j hj hn => ?_, ?_⟩, ⟨fun h => zr, fun _ => ?_, ?_⟩, fun h => zr⟩
   . have hu := hI.up X hX j v hv
     simp only [a5h hl]
     split
     . rename_i ej; subst ej
       rw [A1k, ho X hX v hv, <- hD, hu]; rfl
     . exact hu
   . simp only [a5h hl]
     split
     . rename_i ej; subst ej
       rw [a5o h2 h3] at hn
       exact absurd hrw hn
     . exact hI.no j hj hn
   . simp only [a5h hl]
     split
     . rename_i ej
       have := hI.h0
       rw [<- ej, hD] at this
       rw [this]; simp
     . exact hI.h0
   . have s := (d5f hI.len h2 (x := g[w.toNat] &&& o)).2 ho51
     have := e0z e
     have := hC.2.2
     rw [hD] at s
     simp only
     omega
   . have s := (d5f hI.len h2 (x := g[w.toNat] &&& o)).2 ho51
     have := e0z e
     have := hC.2.2
     rw [hD] at s
     simp only
     omega
theorem f0u {c : List Ins} (hc : CodeOk c) {g0 : List (BitVec N)} {i : Nat} (hr : Rc c i) {o : BitVec N} : ∀ (l : List Int) (g : List (BitVec N)) (m : Bool), Hin N c g -> HC c g0 g m -> (∀ w ∈ l, w ∈ nx c i) -> (∀ w ∈ nx c i, ∀ X, d3t N c X -> ∀ v, X w.toNat v -> o.getLsbD v = true) ->
 Hin N c (edsB o (g, m) l).1 /\ HC c g0 (edsB o (g, m) l).1 (edsB o (g, m) l).2 /\ ((edsB o (g, m) l).2 = false -> m = false /\ (edsB o (g, m) l).1 = g /\ ∀ w ∈ l, (g.getD w.toNat 0) &&& o = g.getD w.toNat 0)
 | [], g, m, hI, hC, _, _ => ⟨hI, hC, fun h => ⟨h, rfl, fun _ h => by cases h⟩⟩
 | w :: l, g, m, hI, hC, hl, ho => by
   obtain ⟨h1, h2, h3⟩ := g8z hc hI hC hr (hl w yd) (ho w (hl w yd))
   have e : edsB o (g, m) (w :: l) = edsB o ((edB o (g, m) w).1, (edB o (g, m) w).2) l := rfl
   rw [e]
   generalize edB o (g, m) w = q at h1 h2 h3
   obtain ⟨h4, h5, h6⟩ := f0u hc hr l q.1 q.2 h1 h2 (fun w hw => hl w (by simp [hw])) ho
   refine ⟨h4, h5, fun hm => ?_⟩
   obtain ⟨a1, a2, a3⟩ := h6 hm
   obtain ⟨b1, b2, b3⟩ := h3 a1
   refine ⟨b1, by rw [a2, b2], fun v hv => ?_⟩
   rcases A0m.1 hv with rfl | hv
   . exact b3
   . have := a3 v hv
     rwa [b2] at this
theorem g4v {g : List (BitVec N)} (hI : Hin N c g) (hi : i < c.length) (hr : Rc c i) {w : Int} (hw : w ∈ nx c i) {X : Nat -> Nat -> Prop} (hX : d3t N c X) (hv : X w.toNat v) : (aftB c[i] (usC c i) (g.getD i 0)).getLsbD v = true := by
 have h1 := hX.2.2 i hi hr w hw v hv
 rw [c2m (hX.2.1 _ _ hv).2]
 split
 . rename_i e; rw [if_pos e] at h1; simpa using h1
 . rename_i e; rw [if_neg e] at h1; exact hI.up X hX i v h1
structure Hrun (N : Nat) (c : List Ins) (g0 g : List (BitVec N)) (m : Bool) (D : Nat -> Prop) : Prop where
 inn : Hin N c g
 chg : HC c g0 g m
 ed : m = false -> ∀ i (hi : i < c.length), D i -> Rc c i -> ∀ w ∈ nx c i, (g0.getD w.toNat 0) &&& aftB c[i] (usC c i) (g0.getD i 0) = g0.getD w.toNat 0
def stR (c : List Ins) (s : List (BitVec N) × Bool) (i : Nat) : List (BitVec N) × Bool := match c[i]? with
 | none => s
 | some n => edsB (aftB n (usC c i) (s.1.getD i 0)) s (nx c i)
theorem c8f {s : List (BitVec N) × Bool} (h : i < c.length) : stR c s i = edsB (aftB c[i] (usC c i) (s.1.getD i 0)) s (nx c i) := by
 unfold stR
 rw [A5n h]
theorem Hrun.step {c : List Ins} (hc : CodeOk c) {g0 g : List (BitVec N)} {m : Bool} {D : Nat -> Prop} (h : Hrun N c g0 g m D) {i : Nat} (hi : i < c.length) (hr : Rc c i) : Hrun N c g0 (stR c (g, m) i).1 (stR c (g, m) i).2 (fun j => j = i \/ D j) /\ ((stR c (g, m) i).2 = false -> m = false /\ (stR c (g, m) i).1 = g) := by
 rw [c8f hi]
 obtain ⟨h1, h2, h3⟩ := f0u hc hr (nx c i) g m h.inn h.chg (fun _ h => h) fun w hw X hX v hv => g4v h.inn hi hr hw hX hv
 refine ⟨⟨h1, h2, fun hm j hj hd hrj w hw => ?_⟩, fun hm => ⟨(h3 hm).1, (h3 hm).2.1⟩⟩
 obtain ⟨a1, a2, a3⟩ := h3 hm
 rcases hd with rfl | hd
 . have e1 : g.getD j 0 = g0.getD j 0 := h.chg.1 a1 j hj (by rw [opA hj]; exact hrj.op hc hj)
   obtain ⟨_, b1, b2⟩ := a7e hc hw
   have e2 : g.getD w.toNat 0 = g0.getD w.toNat 0 := h.chg.1 a1 _ b1 (by rw [opA b1]; exact b2)
   have := a3 w hw
   rwa [e1, e2] at this
 . exact h.ed a1 j hj hd hrj w hw
theorem Hrun.skip {g0 g : List (BitVec N)} (h : Hrun N c g0 g m D) (hr : ¬ Rc c i) : Hrun N c g0 g m (fun j => j = i \/ D j) :=
 ⟨h.inn, h.chg, fun hm j hj hd hrj w hw => by
  rcases hd with rfl | hd
  . exact absurd hrj hr
  . exact h.ed hm j hj hd hrj w hw⟩
theorem Hrun.case (hc : CodeOk c) {g0 g : List (BitVec N)} (h : Hrun N c g0 g m D) (hi : i + 1 < c.length) (ho : c[i + 1].op = 51) : Hrun N c g0 (g.set (i + 1) (g.getD i 0)) m (fun j => j = i + 1 \/ D j) := by
 have hl : i + 1 < g.length := by rw [h.inn.len]; exact hi
 have ho' : opAt c ((i + 1 : Nat) : Int) = 51 := by rw [opA hi]; exact ho
 have hs := (d5f h.inn.len hi (x := g.getD i 0)).1 ho'
 refine ⟨⟨by rw [A0h]; exact h.inn.len, fun X hX j v hv => ?_, fun j hj hn => ?_, ?_⟩, ⟨fun hm j hj hn => ?_, fun hm => by rw [hs]; exact h.chg.2.1 hm, by rw [hs]; exact h.chg.2.2⟩, fun hm j hj hd hrj w hw => ?_⟩
 . rw [a5h hl]
   split
   . rename_i e; subst e
     exact absurd ho ((hX.2.1 _ _ hv).1.op hc hi)
   . exact h.inn.up X hX j v hv
 . rw [a5h hl]
   split
   . rename_i e; subst e
     rw [hd_s hi ho] at hn
     exact h.inn.no i ya hn
   . exact h.inn.no j hj hn
 . rw [a5h hl, if_neg ya]; exact h.inn.h0
 . rw [a5h hl, if_neg (by rintro rfl; exact hn ho')]
   exact h.chg.1 hm j hj hn
 . rcases hd with rfl | hd
   . exact absurd ho (hrj.op hc hi)
   . exact h.ed hm j hj hd hrj w hw
theorem Hrun.mono {g0 g : List (BitVec N)} {D' : Nat -> Prop} (h : Hrun N c g0 g m D) (hd : ∀ i, i < c.length -> Rc c i -> D' i -> D i) : Hrun N c g0 g m D' :=
 ⟨h.inn, h.chg, fun hm i hi hD hr => h.ed hm i hi (hd i hi hr hD) hr⟩
theorem Hrun.init {g : List (BitVec N)} (h : Hin N c g) : Hrun N c g g false (fun _ => False) := ⟨h, HC.refl c g, fun _ _ _ h => h.elim⟩
theorem Hrun.fin (hc : CodeOk c) {g0 g : List (BitVec N)} (h0 : Hin N c g0) (h : Hrun N c g0 g false (fun _ => True)) (hi : i < c.length) (hr : Rc c i) (hv : v < N) : (g.getD i 0).getLsbD v = true ↔ Hd N c i v := by
 have same : ∀ j (hj : j < c.length), Rc c j -> g.getD j 0 = g0.getD j 0 := fun j hj hrj => h.chg.1 rfl j hj (by rw [opA hj]; exact hrj.op hc hj)
 constructor
 . intro hg
   refine ⟨fun j v => Rc c j /\ v < N /\ (g0.getD j 0).getLsbD v = true, ⟨fun v hx => ?_, fun j v hx => ⟨hx.1, hx.2.1⟩, fun j hj hrj w hw v hx => ?_⟩, hr, hv, by rw [<- same i hi hr]; exact hg⟩
   . have := hx.2.2
     rw [h0.h0] at this
     simp at this
   . have := f7z (h.ed rfl j hj trivial hrj w hw) hx.2.2
     rw [c2m hx.2.1] at this
     split
     . rename_i e; rw [if_pos e] at this; simpa using this
     . rename_i e; rw [if_neg e] at this; exact ⟨hrj, hx.2.1, this⟩
 . rintro ⟨X, hX, hx⟩
   exact h.inn.up X hX i v hx
open Classical in
noncomputable def g0B (N : Nat) (c : List Ins) : List (BitVec N) := (List.range c.length).map fun i => if Rc c (hd c i) /\ 0 < i then BitVec.allOnes N else 0
theorem a7g (c : List Ins) : (g0B N c).length = c.length := by simp [g0B]
theorem b9l (h : i < c.length) : (Rc c (hd c i) /\ 0 < i -> (g0B N c).getD i 0 = BitVec.allOnes N) /\ (¬ (Rc c (hd c i) /\ 0 < i) -> (g0B N c).getD i 0 = 0) := by
 unfold g0B
 rw [A5m, A1j, A4h h]
 exact ⟨fun h => by simp only [A0s, A5z, if_pos h], fun h => by simp only [A0s, A5z, if_neg h]⟩
theorem g2z (hc : CodeOk c) : Hin N c (g0B N c) := by
 refine ⟨a7g c, fun X hX i v hv => ?_, fun i hi hn => (b9l hi).2 fun h => hn h.1, (b9l hc.ne).2 fun h => by omega⟩
 obtain ⟨hr, hvN⟩ := hX.2.1 i v hv
 have hi := hr.lt hc
 have h0 : 0 < i := by
  rcases A1v i with h | h
  . subst h; exact absurd hv (hX.1 v)
  . exact h
 rw [(b9l hi).1 ⟨by rw [a5o hi (hr.op hc hi)]; exact hr, h0⟩]
 simpa using hvN
end Go.Gv
namespace Go.Je
open Go Go.FM Go.Gv Go.Proofs
theorem e6q {l : List FnD} {n : Nat} {z : FnD} (h : l[n]? = some z) : (fns l)[n]? = some [.str z.name, .int .i64 z.params, .int .i64 z.regs, .list 5 (inss z.code)] := by simp [fns, h, FnD.row]
theorem c21 (p : Pg) (hf : p.fu.length <= 2000000) (hg : p.gl.length <= 2000000) (hl : p.la.length <= 2000000) (hb : ∀ x ∈ p.la, x.length <= 2000000) (hfc : ∀ x ∈ p.fu, x.code.length <= 2000000) : Pq 17 [PA p] (.bool (a0m p)) := by
 rcases d3d p with ⟨h1, hh⟩ | ⟨h1, h2, hh⟩ | ⟨h1, h2, h3, hh⟩ | ⟨h1, h2, h3, h4, hh⟩ | ⟨h1, h2, h3, h4, h5, hh⟩ | ⟨h1, h2, h3, h4, h5, z, hm, hz, h6, hh⟩ | ⟨h1, h2, h3, h4, h5, z, hm, hz, h6, hh⟩
 all_goals try (have hz2 := e6q hz)
 all_goals
  refine zw Tryz.f17 [.tmp 2] 8 119 [] ?_
  repeat' first
   | (refine yi ?_; refine a5f (fun y : {i : Nat // i <= p.gl.length /\ gOk p i} => (⟨[PA p, .ptr [1] 4 0 0, .bool false, .int .i64 (y.1 : Int), .undef, .undef, .undef, .undef], [], hpL [([1], .cells 26 4 [[.list 4 (fns p.fu), .list 2 (gbs p.gl), .list 1 (lays p.la), .int .i64 p.main]])], []⟩ : Fs)) (fun y => p.gl.length - y.1) ⟨0, by simp, g8m p⟩ yg1 ?_; rintro ⟨i, hi, hk⟩; (try dsimp only at hi hk); rcases a0c hi with hlt | ⟨hlt, rfl⟩; rotate_left; have hgk := hk; rotate_left; have wi := wli hlt ya; rcases e1g (p.gl[i]'hlt).name with ⟨n1, n2⟩ | ⟨n1, n2⟩; rotate_left; rcases e6k (p.gl[i]'hlt).kind with ⟨k1, k2⟩ | ⟨k0, k1, k2⟩ | ⟨k0, k1, k2⟩)
   | (refine yi ?_; refine a5f (fun y : {j : Nat // j <= i /\ gDi p i j} => (⟨[PA p, .ptr [1] 4 0 0, .bool false, .int .i64 (i : Int), .ptr [4] 2 0 0, .int .i64 (y.1 : Int), .undef, .undef], [], hpL [([1], .cells 26 4 [[.list 4 (fns p.fu), .list 2 (gbs p.gl), .list 1 (lays p.la), .int .i64 p.main]]), ([4], .cells 79 2 [[.str (p.gl[i]'hlt).name, .int .i64 (p.gl[i]'hlt).kind]])], []⟩ : Fs)) (fun y => i - y.1) ⟨0, by simp, g8o p i⟩ yg1 ?_; rintro ⟨j, hj, hd⟩; (try dsimp only at hj hd); rcases a0c hj with hjl | ⟨hjl, rfl⟩; have hjg : j < p.gl.length := ya; have wj := wli hjl ya; rcases d0v (p.gl[j]'hjg).name.data.toList (p.gl[i]'hlt).name.data.toList with ⟨q1, q2⟩ | ⟨q1, q2⟩)
   | (refine yi ?_; refine a5f (fun y : {i : Nat // i <= p.fu.length /\ fOk p i} => (⟨[PA p, .ptr [1] 4 0 0, .bool false, .undef, .undef, .undef, .int .i64 (y.1 : Int), .undef], [], hpL [([1], .cells 26 4 [[.list 4 (fns p.fu), .list 2 (gbs p.gl), .list 1 (lays p.la), .int .i64 p.main]])], []⟩ : Fs)) (fun y => p.fu.length - y.1) ⟨0, by simp, g8w p⟩ yg1 ?_; rintro ⟨i, hi, hk⟩; (try dsimp only at hi hk); rcases a0c hi with hlt | ⟨hlt, rfl⟩; have wi := wli hlt ya; have hcc := hfc _ (A5p hlt); cases hfn : fnR p (p.fu[i]'hlt))
   | (refine yi ?_; refine a5f (fun y : {j : Nat // j <= i /\ fDi p i j} => (⟨[PA p, .ptr [1] 4 0 0, .bool false, .undef, .undef, .undef, .int .i64 (i : Int), .int .i64 (y.1 : Int)], [], hpL [([1], .cells 26 4 [[.list 4 (fns p.fu), .list 2 (gbs p.gl), .list 1 (lays p.la), .int .i64 p.main]])], []⟩ : Fs)) (fun y => i - y.1) ⟨0, by simp, g8y p i⟩ yg1 ?_; rintro ⟨j, hj, hd⟩; (try dsimp only at hj hd); rcases a0c hj with hjl | ⟨hjl, rfl⟩; have hjg : j < p.fu.length := ya; have wj := wli hjl ya; rcases d0v (p.fu[j]'hjg).name.data.toList (p.fu[i]'hlt).name.data.toList with ⟨q1, q2⟩ | ⟨q1, q2⟩)
   | (refine ye ?_; refine a0b (⟨j + 1, by omega, g8n hd hlt ya (by simpa [Gb.nm] using q2)⟩) wn yf)
   | (refine ye ?_; refine a0b (⟨j + 1, by omega, g8x hd hlt ya (by simpa [FnD.nm] using q2)⟩) wn yf)
   | (refine ye ?_; refine a0b (⟨_ + 1, by omega, g8l hk hlt (by simpa [Gb.nm] using n2) k2 hd⟩) wn yf)
   | (refine ye ?_; refine a0b (⟨_ + 1, by omega, g8v hk hlt hfn hd⟩) wn yf)
   | with_reducible first | refine wd ?_ | refine stpK ?_; intro K hK | refine stpC ?_; intro T E hT hE | refine stp2 ?_ ?_ <;> intro h | refine a0n (id := 22) 13 a0d yc fun K hK => ?_ | refine a0n (id := 17) 8 a0d yc fun K hK => ?_ | refine a0n (id := 12) 9 a0d yc fun K hK => ?_ | refine a1v (c37 _ hl hb) yr ?_ | refine hpc (c37 _ hl hb) yr ?_ | refine a1v (c38 p _ hcc hf hg hl) yr ?_ | refine hpc (c38 p _ hcc hf hg hl) yr ?_ | refine yg ?_; clear hK K | refine yh ?_; clear hT hE T E
   | simp [*, -List.all_flatten, -List.all_eq_true, DEFO, -Bool.decide_and, eqV, z1c, a0j, Ins.row, FnD.row, Gb.row, a0v, A1w, A1y, Gb.row]
  all_goals first
   | (simp [f1t hh]; done)
   | (have := vf_g hlt (.inl (by simpa [Gb.nm] using n2)); simp [this]; done)
   | (have := vf_g hlt (.inr k2); simp [this]; done)
   | (have := g6a hlt hjl (by simpa [Gb.nm] using q2); simp [this]; done)
   | (have := vf_f hlt hfn; simp [this]; done)
   | (have := g6b hlt hjl (by simpa [FnD.nm] using q2); simp [this]; done)
   | (have := vt hh hgk hk; simp [this]; done)
theorem c61 (p : Pg) (f : FnD) (x : Ins) (hc : f.code.length <= 2000000) (hf : p.fu.length <= 2000000) (hg : p.gl.length <= 2000000) (hl : p.la.length <= 2000000) : Pq 124 [.agg [.list 4 (fns p.fu), .list 2 (gbs p.gl), .list 1 (lays p.la), .int .i64 p.main, .str f.name, .int .i64 f.params, .int .i64 f.regs, .list 5 (inss f.code)], .agg [.int .i64 x.op, .int .i64 x.a, .int .i64 x.b, .int .i64 x.c, .int .i64 x.d]] (.bool (a8t p f x)) := by
 by_cases ho : 1 <= x.op /\ x.op <= 52
 obtain ⟨⟨i1, i2, i3⟩, ⟨j1, j2, j3⟩, j4⟩ := c7w ho
 all_goals
  refine zw Tryz.f124 [.tmp 4] 9 55 [29, 28] ?_
  repeat' first
   | (refine yi ?_; refine a5f (fun y : {i : Nat // i <= 3 /\ ((0 < i -> opI p f x (rI x.op).1 x.a = true) /\ (1 < i -> opI p f x (rI x.op).2.1 x.b = true) /\ (2 < i -> opI p f x (rI x.op).2.2 x.c = true))} => (⟨[.agg [.list 4 (fns p.fu), .list 2 (gbs p.gl), .list 1 (lays p.la), .int .i64 p.main, .str f.name, .int .i64 f.params, .int .i64 f.regs, .list 5 (inss f.code)], .agg [.int .i64 x.op, .int .i64 x.a, .int .i64 x.b, .int .i64 x.c, .int .i64 x.d], .ptr [2] 8 0 0, .ptr [3] 5 0 0, .bool false, .ptr [5] 2 0 0, .bool true, .undef, .undef], [(28, .agg [.int .i64 x.a, .int .i64 x.b, .int .i64 x.c]), (29, .int .i64 (y.1 : Int))], hpL [([2], .cells 119 8 [[.list 4 (fns p.fu), .list 2 (gbs p.gl), .list 1 (lays p.la), .int .i64 p.main, .str f.name, .int .i64 f.params, .int .i64 f.regs, .list 5 (inss f.code)]]), ([3], .cells 42 5 [[.int .i64 x.op, .int .i64 x.a, .int .i64 x.b, .int .i64 x.c, .int .i64 x.d]]), ([5], .cells 195 2 [[.str (wdI x.op), .str (rlI x.op)]])], []⟩ : Fs)) (fun y => 3 - y.1) ⟨0, by simp⟩ yg1 ?_; rintro ⟨i, hi, hk⟩; rcases g6c hi with rfl | rfl | rfl | rfl)
   | (refine ye ?_; refine a0b (⟨1, by simp_all⟩) wn yf)
   | (refine ye ?_; refine a0b (⟨2, by simp_all⟩) wn yf)
   | (refine ye ?_; refine a0b (⟨3, by simp_all⟩) wn yf)
   | with_reducible first | refine wd ?_ | refine stpK ?_; intro K hK | refine stpC ?_; intro T E hT hE | refine stp2 ?_ ?_ <;> intro h | refine a0n (id := 7) 9 a0d yc fun K hK => ?_ | refine a1v (e1k _ ho) yr ?_ | refine hpc (e1k _ ho) yr ?_ | refine a1v (e1l _ ho) yr ?_ | refine hpc (e1l _ ho) yr ?_ | refine a1v (c109 p f x _ _ hc hf hg hl) yr ?_ | refine hpc (c109 p f x _ _ hc hf hg hl) yr ?_ | refine yg ?_; clear hK K | refine yh ?_; clear hT hE T E
   | simp [*, -List.all_flatten, -List.all_eq_true, DEFO, -Bool.decide_and, g4t, g4s, g4r, IntKind.wrap_i64, z1c, a0j, Ins.row, FnD.row, Gb.row, a0v, A1w]
  all_goals first
   | (simp_all [a8t]; done)
   | (simp_all [a8t, W, IntKind.wrap_i64]; done)
   | (rw [<- A2g]; intro hh; simp [a8t, *] at hh <;> omega)
end Go.Je
namespace Go.Gv
open Go Go.FM
variable {N : Nat}
variable {c : List Ins} {i j k m t v : Nat} {l : List Int} {p : Pg} {s : BitVec 64}
theorem g9a (o : BitVec N) (g : List (BitVec N)) (m : Bool) (w : Int) : edB o (g, m) w = ((edB o (g, false) w).1, (edB o (g, false) w).2 || m) := by
 unfold edB
 simp only
 split
 . simp
 . split
   . simp
   . simp
theorem e0o (o : BitVec N) : ∀ (l : List Int) (g : List (BitVec N)) (m : Bool), edsB o (g, m) l = ((edsB o (g, false) l).1, (edsB o (g, false) l).2 || m)
 | [], g, m => by simp [edsB]
 | w :: l, g, m => by
   have e : ∀ m, edsB o (g, m) (w :: l) = edsB o (edB o (g, m) w) l := fun _ => rfl
   rw [e, e, g9a o g m w, e0o o l _ ((edB o (g, false) w).2 || m)]
   rw [show edB o (g, false) w = ((edB o (g, false) w).1, (edB o (g, false) w).2) from rfl, e0o o l _ (edB o (g, false) w).2]
   simp only [Bool.or_assoc]
theorem e3v (c : List Ins) (g : List (BitVec N)) (m : Bool) (i : Nat) : stR c (g, m) i = ((stR c (g, false) i).1, (stR c (g, false) i).2 || m) := by
 unfold stR
 split
 . simp
 . exact e0o ..
def pcC (c : List Ins) (s : List (BitVec N) × Bool) (i : Nat) : List (BitVec N) × Bool := if opAt c (i : Int) = 51 then (s.1.set i (s.1.getD (i - 1) 0), s.2) else stR c s i
def rndC (c : List Ins) (a : Nat) (g : List (BitVec N)) : Nat -> List (BitVec N) × Bool
 | 0 => (g, false)
 | k + 1 => pcC c (rndC c a g k) (a + k)
structure Crun (N : Nat) (c : List Ins) (g0 g : List (BitVec N)) (m : Bool) (D : Nat -> Prop) : Prop where
 run : Hrun N c g0 g m D
 cs : m = false -> ∀ i (hi : i < c.length), D i -> c[i].op = 51 -> g.getD i 0 = g0.getD (hd c i) 0
theorem Crun.pc (hc : CodeOk c) {g0 g : List (BitVec N)} {m m1 : Bool} {D : Nat -> Prop} (h : Crun N c g0 g (m1 || m) D) (hi : i < c.length) (hr : Rc c (hd c i)) (hp : c[i].op = 51 -> D (i - 1)) : Crun N c g0 (pcC c (g, m1) i).1 ((pcC c (g, m1) i).2 || m) (fun j => j = i \/ D j) := by
 unfold pcC
 rw [opA hi]
 split
 . rename_i e
   obtain ⟨j, rfl⟩ : ∃ j, i = j + 1 := ⟨i - 1, by
    have : i ≠ 0 := fun e0 => by subst e0; exact hc.h0 hi e
    omega⟩
   simp only [A3p] at hp ⊢
   refine ⟨h.run.case hc hi e, fun hm k hk hd hk5 => ?_⟩
   rw [a5h (by rw [h.run.inn.len]; exact hi)]
   split
   . rename_i ek; subst ek
     rw [hd_s hi e]
     by_cases e5 : c[j].op = 51
     . exact h.cs hm j ya (hp e) e5
     . rw [a5o ya e5]
       exact h.run.chg.1 hm j ya (by rw [opA ya]; exact e5)
   . rename_i ek
     exact h.cs hm k hk (hd.resolve_left fun e => ek e.symm) hk5
 . rename_i e
   rw [a5o hi e] at hr
   have e1 : ((stR c (g, m1) i).2 || m) = (stR c (g, m1 || m) i).2 := by
    rw [e3v c g (m1 || m), e3v c g m1]
    simp only [Bool.or_assoc]
   have e2 : (stR c (g, m1) i).1 = (stR c (g, m1 || m) i).1 := by rw [e3v c g (m1 || m), e3v c g m1]
   rw [e1, e2]
   obtain ⟨h1, h2⟩ := h.run.step hc hi hr
   refine ⟨h1, fun hm k hk hd hk5 => ?_⟩
   obtain ⟨a1, a2⟩ := h2 hm
   rw [a2]
   exact h.cs a1 k hk (hd.resolve_left (by rintro rfl; exact e hk5)) hk5
theorem Crun.mono {c : List Ins} {g0 g : List (BitVec N)} {m : Bool} {D D' : Nat -> Prop} (h : Crun N c g0 g m D) (hd : ∀ i, i < c.length -> D' i -> D i) : Crun N c g0 g m D' :=
 ⟨h.run.mono fun i hi _ h => hd i hi h, fun hm i hi hD => h.cs hm i hi (hd i hi hD)⟩
theorem Crun.block {c : List Ins} (hc : CodeOk c) {g0 g : List (BitVec N)} {m : Bool} {D : Nat -> Prop} (h : Crun N c g0 g m D) {j : Nat} (hj : j < (blks c).length) (hr : RB c j) : ∀ k, (blks c)[j].1 + k <= (blks c)[j].2 -> Crun N c g0 (rndC c (blks c)[j].1 g k).1 ((rndC c (blks c)[j].1 g k).2 || m) (fun i => ((blks c)[j].1 <= i /\ i < (blks c)[j].1 + k) \/ D i)
 | 0, _ => h.mono fun i _ hd => hd.elim (fun h => by omega) id
 | k + 1, hk => by
   have ih := Crun.block hc h hj hr k ya
   obtain ⟨B, hB⟩ := a8v hj
   have hi : (blks c)[j].1 + k < c.length := by omega
   have h1 := e1u hc hj (g7i hc hr hj) ((blks c)[j].1 + k) ya ya
   have := Crun.pc hc (i := (blks c)[j].1 + k) (m1 := (rndC c (blks c)[j].1 g k).2) (g := (rndC c (blks c)[j].1 g k).1) ih hi h1 fun e5 => by
    left
    have : k ≠ 0 := fun e0 => by
     subst e0
     have hl : (a1u c)[(blks c)[j].1]? = some true := by
      have := (B.num _ (A5s _) B.lt).1
      cases hz : (blks c)[j].1 with
      | zero =>
        have := ((a3y hc).2 (.inl rfl) : isM (a1u c) 0).2
        simpa using this
      | succ m =>
        rw [hz] at this
        by_cases hl : (a1u c)[m + 1]? = some true
        . exact hl
        . rw [c0c hl] at this
          have := b4c c m; omega
     exact c6a hc hl ya e5
    omega
   exact this.mono fun i _ hd => hd.elim (fun h => by
    by_cases e : i = (blks c)[j].1 + k
    . exact .inl e
    . exact .inr (.inl ya)) fun h => .inr (.inr h)
theorem g2p {c : List Ins} (hc : CodeOk c) : ∀ i, i < c.length -> nmF c (hd c i) = nmF c i
 | 0, _ => rfl
 | i + 1, h => by
   by_cases e : c[i + 1].op = 51
   . rw [hd_s h e, g2p hc i ya]
     have : ¬ (a1u c)[i + 1]? = some true := fun hl => c6a hc hl h e
     unfold nmF
     rw [c2h this]
   . rw [a5o h e]
open Classical in
noncomputable def hdB (N : Nat) (c : List Ins) (i : Nat) : BitVec N := if h : ∃ b : BitVec N, ∀ v, v < N -> (b.getLsbD v = true ↔ Hd N c (hd c i) v) then h.choose else 0
noncomputable def hdG (N : Nat) (c : List Ins) : List (BitVec N) := (List.range c.length).map (hdB N c)
theorem a7f (c : List Ins) : (hdG N c).length = c.length := by simp [hdG]
theorem f0e {b : BitVec N} (h : ∀ v, v < N -> (b.getLsbD v = true ↔ Hd N c (hd c i) v)) : hdB N c i = b := by
 have hh : ∃ b : BitVec N, ∀ v, v < N -> (b.getLsbD v = true ↔ Hd N c (hd c i) v) := ⟨b, h⟩
 unfold hdB
 rw [dif_pos hh]
 exact c4r fun v hv => A2n.2 ((hh.choose_spec v hv).trans (h v hv).symm)
theorem f0d {g : List (BitVec N)} (hl : g.length = c.length) (h : ∀ i, i < c.length -> ∀ v, v < N -> ((g.getD i 0).getLsbD v = true ↔ Hd N c (hd c i) v)) : g = hdG N c := by
 refine A0e (by rw [a7f, hl]) fun i h1 h2 => ?_
 simp only [hdG, A2s, A3t]
 have := h i ya
 rw [A5m, A5n h1] at this
 exact (f0e this).symm
theorem f5s {g : List (BitVec N)} (e : g = hdG N c) (h : ∀ i, i < c.length -> ∀ v, v < N -> ((g.getD i 0).getLsbD v = true ↔ Hd N c (hd c i) v)) : ∀ i, i < c.length -> ∀ v, v < N -> (((hdG N c).getD i 0).getLsbD v = true ↔ Hd N c (hd c i) v) := by rw [<- e]; exact h
theorem Hrun.mem (hc : CodeOk c) {g0 g : List (BitVec N)} (h0 : Hin N c g0) (h : Hrun N c g0 g false (fun _ => True)) (i : Nat) (hi : i < c.length) (v : Nat) (hv : v < N) : (g.getD (hd c i) 0).getLsbD v = true ↔ Hd N c (hd c i) v := by
 have hl : hd c i < c.length := by have := b2o c i; omega
 by_cases hr : Rc c (hd c i)
 . exact h.fin hc h0 hl hr hv
 . have e : hd c (hd c i) = hd c i := a5o hl (d3e hc i hi hl)
   rw [h.inn.no _ hl (by rw [e]; exact hr)]
   constructor
   . intro h; simp at h
   . intro h; exact absurd ((Hd.post N c).2.1 _ _ h).1 hr
theorem Crun.mem {c : List Ins} (hc : CodeOk c) {g0 g : List (BitVec N)} {D : Nat -> Prop} (h0 : Hin N c g0) (h : Crun N c g0 g false D) (hD : ∀ i, i < c.length -> RB c (nmF c i) -> D i) (i : Nat) (hi : i < c.length) (v : Nat) (hv : v < N) : (g.getD i 0).getLsbD v = true ↔ Hd N c (hd c i) v := by
 have hT : Hrun N c g0 g false (fun _ => True) := h.run.mono fun i hi hr _ => hD i hi (g1f hc hr)
 have hm := hT.mem hc h0 i hi v hv
 have hl : hd c i < c.length := by have := b2o c i; omega
 by_cases e : c[i].op = 51
 . by_cases hr : Rc c (hd c i)
   . have h1 := h.cs rfl i hi (hD i hi (by rw [<- g2p hc i hi]; exact g1f hc hr)) e
     have h2 := h.run.chg.1 rfl (hd c i) hl (by rw [opA hl]; exact d3e hc i hi hl)
     rw [h1, <- h2]; exact hm
   . rw [h.run.inn.no i hi hr]
     constructor
     . intro h; simp at h
     . intro h; exact absurd ((Hd.post N c).2.1 _ _ h).1 hr
 . rw [a5o hi e] at hm ⊢
   exact hm
structure Csw (N : Nat) (c : List Ins) (ord : List Int) (k : Nat) (g0 g : List (BitVec N)) (m : Bool) : Prop where
 run : Crun N c g0 g m (fun i => ∃ q, q < k /\ ∃ hq : q < ord.length, (nmF c i : Int) = ord[q])
theorem Csw.init {c : List Ins} {ord : List Int} {g : List (BitVec N)} (h : Hin N c g) : Csw N c ord 0 g g false := ⟨⟨(Hrun.init h).mono fun i _ _ ⟨q, h, _⟩ => by omega, fun _ i _ ⟨q, h, _⟩ => by omega⟩⟩
theorem Csw.step {c : List Ins} (hc : CodeOk c) {ord : List Int} (ho : e8f c ord) {k : Nat} (hk : k < ord.length) {g0 g : List (BitVec N)} {m : Bool} (h : Csw N c ord k g0 g m) : ∃ j : Nat, ord[k] = (j : Int) /\ ∃ hj : j < (blks c).length, (blks c)[j].1 < (blks c)[j].2 /\ (blks c)[j].2 <= c.length /\
 Csw N c ord (k + 1) g0 (rndC c (blks c)[j].1 g ((blks c)[j].2 - (blks c)[j].1)).1 ((rndC c (blks c)[j].1 g ((blks c)[j].2 - (blks c)[j].1)).2 || m) := by
 obtain ⟨h0, hR⟩ := (ho _).1 (A5p hk)
 have hj := f3w hc hR
 obtain ⟨B, hB⟩ := a8v hj
 have hlt := B.lt
 refine ⟨ord[k].toNat, by omega, hj, hlt, hB, ⟨?_⟩⟩
 have := Crun.block hc h.run hj hR ((blks c)[ord[k].toNat].2 - (blks c)[ord[k].toNat].1) ya
 refine this.mono ?_
 rintro i hi ⟨q, h1, h2, h3⟩
 by_cases e : q = k
 . subst e
   left
   obtain ⟨g1, g2, g3⟩ := b8g hc hi
   have e2 : ord[q].toNat = nmF c i := by omega
   simp only [e2]
   omega
 . exact .inr ⟨q, by omega, h2, h3⟩
def muG (c : List Ins) (g : List (BitVec N)) (m : Bool) : Nat := if m then szG c g + 1 else 0
theorem Csw.mu {ord : List Int} {g0 g : List (BitVec N)} {m : Bool} (h : Csw N c ord k g0 g m) : muG c g m < muG c g0 true := by
 unfold muG
 cases m
 . simp
 . have := h.run.run.chg.2.1 rfl
   simp; omega
theorem Csw.fin (hc : CodeOk c) {ord : List Int} (ho : e8f c ord) {g0 g : List (BitVec N)} (h0 : Hin N c g0) (h : Csw N c ord ord.length g0 g false) : g = hdG N c /\ ∀ i, i < c.length -> ∀ v, v < N -> ((g.getD i 0).getLsbD v = true ↔ Hd N c (hd c i) v) := by
 have := h.run.mem hc h0 fun i hi hR => by
  have hm : (nmF c i : Int) ∈ ord := (ho _).2 ⟨by omega, by simpa using hR⟩
  obtain ⟨q, hq, e⟩ := List.mem_iff_getElem.1 hm
  exact ⟨q, hq, hq, e.symm⟩
 exact ⟨f0d h.run.run.inn.len this, this⟩
open Classical in
noncomputable def rndR (c : List Ins) (g : List (BitVec N)) : Nat -> List (BitVec N) × Bool
 | 0 => (g, false)
 | k + 1 => if Rc c (hd c k) then stR c (rndR c g k) k else rndR c g k
theorem b5e {c : List Ins} (hc : CodeOk c) {g : List (BitVec N)} (hI : Hin N c g) : ∀ k, k <= c.length -> Hrun N c g (rndR c g k).1 (rndR c g k).2 (fun i => i < k)
 | 0, _ => (Hrun.init hI).mono fun i _ _ h => by omega
 | k + 1, hk => by
   have ih := b5e hc hI k ya
   unfold rndR
   split
   . rename_i hr
     by_cases e : c[k].op = 51
     . have : stR c (rndR c g k) k = rndR c g k := by
        rw [c8f ya, c5v ya, if_pos (.inr e)]; rfl
       rw [this]
       exact (ih.skip (i := k) fun h => h.op hc ya e).mono fun i _ _ h => by omega
     . rw [a5o ya e] at hr
       exact ((ih.step hc (i := k) ya hr).1).mono fun i _ _ h => by omega
   . rename_i hr
     refine (ih.skip (i := k) fun h => hr ?_).mono fun i _ _ h => by omega
     rw [a5o ya (h.op hc ya)]; exact h
theorem c3f (hc : CodeOk c) {g : List (BitVec N)} (hI : Hin N c g) : Hin N c (rndR c g c.length).1 /\ muG c (rndR c g c.length).1 (rndR c g c.length).2 < muG c g true := by
 have h := b5e hc hI c.length (A5s _)
 refine ⟨h.inn, ?_⟩
 unfold muG
 cases hm : (rndR c g c.length).2
 . simp
 . have := h.chg.2.1 hm
   simp; omega
def hdR (c : List Ins) (g : List (BitVec N)) (k : Nat) : List (BitVec N) := (List.range c.length).map fun i => g.getD (if i < k then hd c i else i) 0
theorem e4k (hc : CodeOk c) {g : List (BitVec N)} (hI : Hin N c g) (hm : (rndR c g c.length).2 = false) : hdR c (rndR c g c.length).1 c.length = hdG N c /\ ∀ i, i < c.length -> ∀ v, v < N -> (((hdG N c).getD i 0).getLsbD v = true ↔ Hd N c (hd c i) v) := by
 have h := b5e hc hI c.length (A5s _)
 rw [hm] at h
 have hT : Hrun N c g (rndR c g c.length).1 false (fun _ => True) := h.mono fun i hi _ _ => hi
 have key : ∀ i, i < c.length -> ∀ v, v < N -> (((hdR c (rndR c g c.length).1 c.length).getD i 0).getLsbD v = true ↔ Hd N c (hd c i) v) := fun i hi v hv => by
  have e : (hdR c (rndR c g c.length).1 c.length).getD i 0 = (rndR c g c.length).1.getD (hd c i) 0 := by
   unfold hdR
   rw [A5m, A1j, A4h hi]
   simp only [A0s, A5z, if_pos hi]
  rw [e]
  exact hT.mem hc hI i hi v hv
 have e := f0d (by simp [hdR]) key
 exact ⟨e, f5s e key⟩
theorem f3b {v : Int} : v ∈ srt l ↔ v ∈ l := (A4g l _).mem_iff
theorem f9u (l : List Int) : (srt l).Pairwise (· <= ·) := by
 have := List.pairwise_mergeSort (le := fun a b : Int => decide (a <= b)) (fun a b c h1 h2 => by simp at *; omega) (fun a b => by simp; omega) l
 exact this.imp fun h => by simpa using h
theorem b6x {d : Array Int} : Lib.keeps d j = true ↔ j = 0 \/ d[j]! ≠ d[j - 1]! := by
 unfold Lib.keeps
 simp
theorem c6y (h : l.Pairwise (· <= ·)) : inc (Lib.compact l) := by
 unfold inc Lib.compact Lib.compactUpTo
 rw [List.pairwise_map]
 have hr : ((List.range l.length).filter (Lib.keeps l.toArray)).Pairwise (· < ·) := List.Pairwise.filter _ List.pairwise_lt_range
 refine List.Pairwise.imp_of_mem (fun {i j} hi hj hij => ?_) hr
 rw [A4n, A2k] at hi hj
 have hk := (b6x.1 hj.2).resolve_left ya
 have hp := A5b.1 h
 have e : ∀ k (hk : k < l.length), l.toArray[k]! = l[k] := fun k hk => by simp [hk]
 rw [e j hj.1, e (j - 1) ya] at hk
 rw [e i hi.1, e j hj.1]
 have h1 := hp (j - 1) j ya hj.1 ya
 by_cases e2 : i = j - 1
 . subst e2; omega
 . have h2 := hp i (j - 1) hi.1 ya ya
   omega
theorem c6w {v : Int} : v ∈ Lib.compact l ↔ v ∈ l := by
 unfold Lib.compact Lib.compactUpTo
 have e : ∀ k (hk : k < l.length), l.toArray[k]! = l[k] := fun k hk => by simp [hk]
 simp only [A1t, A4n, A2k]
 constructor
 . rintro ⟨k, ⟨hk, _⟩, rfl⟩
   rw [e k hk]; exact A5p hk
 . intro h
   obtain ⟨k, hk, rfl⟩ := List.mem_iff_getElem.1 h
   induction k with
   | zero => exact ⟨0, ⟨hk, b6x.2 (.inl rfl)⟩, e 0 hk⟩
   | succ k ih =>
     by_cases e2 : l[k + 1] = l[k]
     . obtain ⟨q, h1, h2⟩ := ih ya (A5p ya)
       exact ⟨q, h1, by rw [h2, e2]⟩
     . refine ⟨k + 1, ⟨hk, b6x.2 (.inr ?_)⟩, e _ hk⟩
       rw [e (k + 1) hk, A3p, e k ya]
       exact e2
theorem c4f : ∀ (s a : List Int), inc a -> inc (s.foldl a0r a)
 | [], _, h => h
 | x :: s, a, h => c4f s _ (d0c h)
theorem f5o : inc [] := List.Pairwise.nil
theorem b6d (s : List Int) : Lib.compact (srt s) = s.foldl a0r [] :=
 c1e (c6y (f9u s)) (c4f s [] f5o) fun v => by
  rw [c6w, f3b, b2j]; simp
def a4s (s : BitVec 64) : List Int := ((List.range 64).filter fun v => s.getLsbD v).map fun (v : Nat) => (v : Int)
theorem f7o : a4s 0 = [] := by simp [a4s]
theorem c4t (s : BitVec 64) : (a4s s).length <= 64 := by
 unfold a4s
 rw [A1l]
 exact A0a (A3y _ _) yd
theorem c5y : (2 ^ t * (2 * m + 1)).testBit j = if j < t then false else (2 * m + 1).testBit (j - t) := by
 have := Nat.testBit_two_pow_mul_add (2 * m + 1) (b := 0) (i := t) (Nat.two_pow_pos t) j
 simpa using this
theorem e5i : (2 ^ t * (2 * m + 1) - 1).testBit j = if j < t then true else (2 * m).testBit (j - t) := by
 have hp := Nat.two_pow_pos t
 have e : 2 ^ t * (2 * m + 1) - 1 = 2 ^ t * (2 * m) + (2 ^ t - 1) := by
  rw [Nat.mul_add, Nat.mul_one]; omega
 rw [e, Nat.testBit_two_pow_mul_add (2 * m) ya j]
 split
 . rw [Nat.testBit_two_pow_sub_one]; simp [*]
 . rfl
theorem d7k : (2 * m + 1).testBit j = if j = 0 then true else (2 * m).testBit j := by
 cases j with
 | zero => simp
 | succ j => simp [Nat.testBit_succ]; congr 1; omega
theorem f5d : ((2 ^ t * (2 * m + 1)) &&& (2 ^ t * (2 * m + 1) - 1)).testBit j = (decide (j ≠ t) && (2 ^ t * (2 * m + 1)).testBit j) := by
 rw [Nat.testBit_and, c5y, e5i]
 by_cases h : j < t
 . simp [h]
 . simp only [if_neg h]
   rw [d7k]
   by_cases e : j = t
   . subst e; simp
   . have : ¬ j - t = 0 := by omega
     simp [this, e]
theorem f5c (h : s ≠ 0) : ∃ m, s.toNat = 2 ^ Lib.ctz 64 s.toNat * (2 * m + 1) /\ Lib.ctz 64 s.toNat < 64 := by
 have h0 : s.toNat ≠ 0 := fun e => h (A3a z1p)
 unfold Lib.ctz
 rw [if_neg h0]
 exact Lib.ctzFrom_spec 64 s.toNat ya s.isLt
def lowT (s : BitVec 64) (t : Nat) : Prop := t < 64 /\ s.getLsbD t = true /\ ∀ j, j < t -> s.getLsbD j = false
theorem e1v {r : BitVec 64} (h : lowT s t) (hr : ∀ j, j < 64 -> r.getLsbD j = (decide (j ≠ t) && s.getLsbD j)) : a4s s = (t : Int) :: a4s r := by
 obtain ⟨h1, h2, h3⟩ := h
 have e : List.range 64 = List.range t ++ t :: (List.range' (t + 1) (63 - t)) := by
  have h5 := List.range'_append_1 (s := 0) (m := t) (n := 63 - t + 1)
  rw [show t + (63 - t + 1) = 64 by omega, A3u, List.range'_succ] at h5
  rw [List.range_eq_range', List.range_eq_range', h5]
 unfold a4s
 have f1 : (List.range t).filter (fun v => s.getLsbD v) = [] := by
  rw [A4w]; intro v hv; rw [h3 v (A2k.1 hv)]; simp
 have f2 : (List.range t).filter (fun v => r.getLsbD v) = [] := by
  rw [A4w]; intro v hv
  have := A2k.1 hv
  rw [hr v ya, h3 v this]; simp
 have f3 : (List.range' (t + 1) (63 - t)).filter (fun v => s.getLsbD v) = (List.range' (t + 1) (63 - t)).filter (fun v => r.getLsbD v) := by
  refine List.filter_congr fun v hv => ?_
  have := List.mem_range'_1.1 hv
  rw [hr v ya]
  have : v ≠ t := by omega
  simp [this]
 rw [e, A5x, A5x, f1, f2, A2u, A2u, A4s (by simpa using h2), A4t (by rw [hr t h1]; simp), f3]
 rfl
theorem b9s (h : s ≠ 0) : a4s s = (Lib.ctz 64 s.toNat : Int) :: a4s (s &&& (s - 1)) := by
 obtain ⟨m, e, ht⟩ := f5c h
 generalize Lib.ctz 64 s.toNat = t at e ht
 have hs : ∀ j, s.getLsbD j = (2 ^ t * (2 * m + 1)).testBit j := fun j => by rw [BitVec.getLsbD, e]
 have h0 : s.toNat ≠ 0 := fun e => h (A3a z1p)
 have hsub : (s - 1).toNat = s.toNat - 1 := by
  rw [BitVec.toNat_sub]
  have := s.isLt
  simp; omega
 refine e1v ⟨ht, ?_, fun j hj => ?_⟩ fun j hj => ?_
 . rw [hs, c5y, if_neg ya, A4y, d7k]; rfl
 . rw [hs, c5y, if_pos hj]
 . rw [hs, <- f5d, BitVec.getLsbD, BitVec.toNat_and, hsub, e]
theorem g1w (h : s ≠ 0) : s &&& (s - 1) ≠ s /\ (a4s (s &&& (s - 1))).length < (a4s s).length := by
 have e := b9s h
 refine ⟨fun h2 => ?_, by rw [e]; simp⟩
 rw [h2] at e
 have := congrArg List.length e
 simp at this
def badI (x : Pts) (c : List Ins) (f i : Nat) : Prop := ∃ hi : i < c.length, lkO c[i].op = true /\ usC c i < 0 /\ (0 : Int) ∈ rg x f c[i].a
noncomputable def dsI (c : List Ins) (i : Nat) (s : BitVec 64) : BitVec 64 := match c[i]? with
 | none => s
 | some n => if n.op = 40 /\ 0 <= usC c i /\ ((hdG 64 c).getD i 0).getLsbD (usC c i).toNat = false then s &&& ~~~BitVec.twoPow 64 (usC c i).toNat else s
noncomputable def dsK (c : List Ins) (s : BitVec 64) : Nat -> BitVec 64
 | 0 => s
 | k + 1 => dsI c k (dsK c s k)
noncomputable def dsF (p : Pg) : Nat -> BitVec 64
 | 0 => BitVec.allOnes 64
 | k + 1 => match p.fu[k]? with
   | none => dsF p k
   | some f => dsK f.code (dsF p k) f.code.length
def BadP (p : Pg) (x : Pts) : Prop := ∃ f, ∃ hf : f < p.fu.length, ∃ i, badI x p.fu[f].code f i
open Classical in
noncomputable def a7i (p : Pg) (x : Pts) : BitVec 64 := if BadP p x then 0 else dsF p p.fu.length
theorem f6o (h : k < p.fu.length) : dsF p (k + 1) = dsK p.fu[k].code (dsF p k) p.fu[k].code.length := by
 rw [dsF, A5n h]
theorem e0q (h : i < c.length) (s : BitVec 64) : dsI c i s = if c[i].op = 40 /\ 0 <= usC c i /\ ((hdG 64 c).getD i 0).getLsbD (usC c i).toNat = false then s &&& ~~~BitVec.twoPow 64 (usC c i).toNat else s := by
 unfold dsI
 rw [A5n h]
def dsOk (c : List Ins) (i v : Nat) : Prop := ∀ hi : i < c.length, c[i].op = 40 -> usC c i = (v : Int) -> ((hdG 64 c).getD i 0).getLsbD v = true
theorem f6n (hv : v < 64) : (dsI c i s).getLsbD v = true ↔ s.getLsbD v = true /\ dsOk c i v := by
 by_cases hi : i < c.length
 . rw [e0q hi]
   split
   . rename_i h
     rw [A1k, A5h, A2l]
     by_cases e : usC c i = (v : Int)
     . simp only [e, A5r] at h ⊢
       simp [hv]
       intro _ hd
       have := hd hi h.1 e
       rw [h.2.2] at this; cases this
     . have : ¬ (usC c i).toNat = v := by omega
       simp [hv, this]
       exact fun _ _ _ e2 => absurd e2 e
   . rename_i h
     refine ⟨fun hs => ⟨hs, fun _ h1 h2 => ?_⟩, fun h => h.1⟩
     cases hb : ((hdG 64 c).getD i 0).getLsbD v with
     | true => rfl
     | false => exact absurd ⟨h1, by omega, by rw [h2]; exact hb⟩ h
 . have e : dsI c i s = s := by unfold dsI; rw [A5y ya]
   rw [e]
   exact ⟨fun h => ⟨h, fun hi' => absurd hi' hi⟩, fun h => h.1⟩
theorem e0p {c : List Ins} {v : Nat} (hv : v < 64) {s : BitVec 64} : ∀ k, (dsK c s k).getLsbD v = true ↔ s.getLsbD v = true /\ ∀ i, i < k -> dsOk c i v
 | 0 => ⟨fun h => ⟨h, fun i hi => by omega⟩, fun h => h.1⟩
 | k + 1 => by
   rw [dsK, f6n hv, e0p hv k]
   refine ⟨fun ⟨⟨h1, h2⟩, h3⟩ => ⟨h1, fun i hi => ?_⟩, fun ⟨h1, h2⟩ => ⟨⟨h1, fun i hi => h2 i ya⟩, h2 k ya⟩⟩
   by_cases e : i = k
   . subst e; exact h3
   . exact h2 i ya
theorem e0r {p : Pg} {v : Nat} (hv : v < 64) : ∀ k, k <= p.fu.length -> ((dsF p k).getLsbD v = true ↔ ∀ f, ∀ hf : f < p.fu.length, f < k -> ∀ i, dsOk p.fu[f].code i v)
 | 0, _ => by
   constructor
   . intro _ f _ h; omega
   . intro _; rw [dsF, BitVec.getLsbD_allOnes]; simpa using hv
 | k + 1, hk => by
   rw [f6o ya, e0p hv, e0r hv k ya]
   refine ⟨fun ⟨h1, h2⟩ f hf hk2 i => ?_, fun h => ⟨fun f hf h2 i => h f hf ya i, fun i _ => h k ya ya i⟩⟩
   by_cases e : f = k
   . subst e
     intro hi
     exact h2 i hi hi
   . exact h1 f hf ya i
theorem e7p {x : Pts} (hv : v < 64) : (a7i p x).getLsbD v = true ↔ ¬ BadP p x /\ ∀ f, ∀ hf : f < p.fu.length, ∀ i, dsOk p.fu[f].code i v := by
 unfold a7i
 split
 . rename_i h
   exact ⟨fun h => by simp at h, fun h2 => absurd h h2.1⟩
 . rename_i h
   rw [e0r hv _ (A5s _)]
   exact ⟨fun h1 => ⟨h, fun f hf => h1 f hf hf⟩, fun h1 f hf _ => h1.2 f hf⟩
theorem f9c (hp : VOk p) (hg : p.gl.length <= 64) {f : FnD} (hf : f ∈ p.fu) (i : Nat) : usC f.code i < 64 := by
 have := (e8w hp hf i).2
 omega
theorem e7n {X : Pts} (hi : i < c.length) {S S' y t : BitVec 64} {u : Int} (hu : usC c i = u) (hu64 : u < 64) {g : BitVec 64} (hg : (hdG 64 c).getD i 0 = g) {zn : Nat} (ht : BitVec.twoPow 64 u.toNat = t) (hz : (g &&& t).toNat = zn) (hy : S &&& ~~~t = y) (hK : S' = dsI c i S) {r : List Int} (hr : rg X k c[i].a = r) :
 (¬ lkO c[i].op = true /\ S' = S /\ ¬ badI X c k i) \/ (lkO c[i].op = true /\ 0 <= u /\ c[i].op = 40 /\ zn = 0 /\ S' = y /\ ¬ badI X c k i) \/ (lkO c[i].op = true /\ 0 <= u /\ c[i].op = 40 /\ ¬ zn = 0 /\ S' = S /\ ¬ badI X c k i) \/
  (lkO c[i].op = true /\ 0 <= u /\ ¬ c[i].op = 40 /\ S' = S /\ ¬ badI X c k i) \/ (lkO c[i].op = true /\ ¬ 0 <= u /\ (0 : Int) ∉ r /\ S' = S /\ ¬ badI X c k i) \/ (lkO c[i].op = true /\ ¬ 0 <= u /\ (0 : Int) ∈ r /\ badI X c k i) := by
 rw [e0q hi, hu, hg, ht, hy] at hK
 have hbad : badI X c k i ↔ lkO c[i].op = true /\ u < 0 /\ (0 : Int) ∈ r := by
  unfold badI
  rw [<- hr, <- hu]
  exact ⟨fun ⟨_, h⟩ => h, fun h => ⟨hi, h⟩⟩
 have hbit : 0 <= u -> (zn = 0 ↔ g.getLsbD u.toNat = false) := fun h0 => by
  rw [<- hz, <- ht]
  constructor
  . intro h
    have h2 : g &&& BitVec.twoPow 64 u.toNat = 0 := A3a zl
    have := congrArg (fun b => b.getLsbD u.toNat) h2
    have hv : u.toNat < 64 := by omega
    simpa [A1k, A2l, hv] using this
  . intro h
    have h2 : g &&& BitVec.twoPow 64 u.toNat = 0 := BitVec.eq_of_getLsbD_eq fun j hj => by
     rw [A1k, A2l]
     by_cases e : u.toNat = j
     . subst e; simp [h]
     . simp [e]
    rw [h2]; rfl
 by_cases hl : lkO c[i].op = true
 . by_cases h0 : 0 <= u
   . have nb : ¬ badI X c k i := fun h => by have := (hbad.1 h).2.1; omega
     by_cases h4 : c[i].op = 40
     . by_cases hz0 : zn = 0
       . rw [if_pos ⟨h4, h0, (hbit h0).1 hz0⟩] at hK
         exact .inr (.inl ⟨hl, h0, h4, hz0, hK, nb⟩)
       . rw [if_neg fun h => hz0 ((hbit h0).2 h.2.2)] at hK
         exact .inr (.inr (.inl ⟨hl, h0, h4, hz0, hK, nb⟩))
     . rw [if_neg fun h => h4 h.1] at hK
       exact .inr (.inr (.inr (.inl ⟨hl, h0, h4, hK, nb⟩)))
   . rw [if_neg fun h => h0 h.2.1] at hK
     by_cases hm : (0 : Int) ∈ r
     . exact .inr (.inr (.inr (.inr (.inr ⟨hl, h0, hm, hbad.2 ⟨hl, by omega, hm⟩⟩))))
     . exact .inr (.inr (.inr (.inr (.inl ⟨hl, h0, hm, hK, fun h => hm (hbad.1 h).2.2⟩))))
 . rw [if_neg fun h => hl (by simp [lkO, h.1])] at hK
   exact .inl ⟨hl, hK, fun h => hl (hbad.1 h).1⟩
section
variable {p : Pg} {nm : ByteArray} {k : Int}
end
open Classical in
theorem g4f {N : Nat} (P : Nat -> Prop) : ∀ m, ∃ b : BitVec N, ∀ v, v < N -> (b.getLsbD v = true ↔ v < m /\ P v)
 | 0 => ⟨0, fun v _ => by simp⟩
 | m + 1 => by
   obtain ⟨b, hb⟩ := g4f P m
   by_cases h : P m
   . refine ⟨b ||| BitVec.twoPow N m, fun v hv => ?_⟩
     rw [BitVec.getLsbD_or, A2l, A2v, hb v hv]
     by_cases e : m = v
     . subst e; simp [hv, h]
     . simp [e]
       intro _; omega
   . refine ⟨b, fun v hv => ?_⟩
     rw [hb v hv]
     constructor
     . rintro ⟨h1, h2⟩; exact ⟨by omega, h2⟩
     . rintro ⟨h1, h2⟩
       by_cases e : v = m
       . subst e; exact absurd h2 h
       . exact ⟨by omega, h2⟩
theorem f5t {N : Nat} (hv : v < N) : (hdB N c i).getLsbD v = true ↔ Hd N c (hd c i) v := by
 obtain ⟨b, hb⟩ := g4f (N := N) (fun v => Hd N c (hd c i) v) N
 have h2 : ∀ v, v < N -> (b.getLsbD v = true ↔ Hd N c (hd c i) v) := fun v hv => (hb v hv).trans ⟨fun h => h.2, fun h => ⟨hv, h⟩⟩
 rw [f0e h2]
 exact h2 v hv
theorem c1h {N : Nat} (hi : i < c.length) (hv : v < N) : ((hdG N c).getD i 0).getLsbD v = true ↔ Hd N c (hd c i) v := by
 have : (hdG N c).getD i 0 = hdB N c i := by
  rw [A5m, A5n z2h]
  simp [hdG]
 rw [this]; exact f5t hv
section
variable {nm : ByteArray} {k : Int}
end
noncomputable def a5n (p : Pg) (x : Pts) (c : List Ins) : List (List Int) := (hdG 64 c).map fun s => a4s (s &&& a7i p x)
section
variable {p : Pg} {nm : ByteArray} {k : Int}
end
end Go.Gv
