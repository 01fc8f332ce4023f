/- Part. -/
import Derived.Test.YtfhhgjbcenhdeaaGreatDoorS13
set_option linter.all false
set_option maxRecDepth 100000
set_option maxHeartbeats 0
namespace Go.Je
open Go Go.FM Go.Gv Go.Proofs
theorem c35 (p : Pg) (f : FnD) (hc : f.code.length <= 2000000) (hf : p.fu.length <= 2000000) (hg : p.gl.length <= 2000000) (hl : p.la.length <= 2000000) : Pq 76 [.agg [.list 4 (fns p.fu), .list 2 (gbs p.gl), .list 1 (lays p.la), .int .i64 p.main, .str f.name, .int .i64 f.params, .int .i64 f.regs, .list 5 (inss f.code)]] (.bool (fnI p f)) := by
 have w1 := wl f.code.length ya
 rcases d1d f.code with hn | ⟨hn, n1, z, n2, n3, n4⟩
 all_goals
  refine zw Tryz.f76 [.tmp 2] 9 75 [49, 48, 47] ?_
  repeat' first
   | (refine yi ?_; refine a5f (fun y : {y : Nat × Int // y.1 <= f.code.length /\ b2k p f f.code 0 = b2k p f (f.code.drop y.1) y.2} => (⟨[.agg [.list 4 (fns p.fu), .list 2 (gbs p.gl), .list 1 (lays p.la), .int .i64 p.main, .str f.name, .int .i64 f.params, .int .i64 f.regs, .list 5 (inss f.code)], .ptr [1] 8 0 0, .bool false, .ptr [3] 4 0 0, .int .i64 (f.code.length : Int), .undef, .int .i64 y.1.2, .undef, .undef], [(47, .list 5 (inss f.code)), (48, .int .i64 (f.code.length : Int)), (49, .int .i64 (y.1.1 : Int))], hpL [([1], .cells 119 8 [[.list 4 (fns p.fu), .list 2 (gbs p.gl), .list 1 (lays p.la), .int .i64 p.main, .str f.name, .int .i64 f.params, .int .i64 f.regs, .list 5 (inss f.code)]]), ([3], .cells 35 4 [[.str f.name, .int .i64 f.params, .int .i64 f.regs, .list 5 (inss f.code)]])], []⟩ : Fs)) (fun y => f.code.length - y.1.1) ⟨(0, 0), by simp⟩ yg1 ?_; rintro ⟨⟨i, e⟩, hi, hk⟩; (try dsimp only at hi hk); have hk2 := hk; rcases a0c hi with hlt | ⟨hlt, rfl⟩; rw [e5k hlt] at hk2; have wi := wli hlt ya; rotate_left; rw [d0z, b2k] at hk2; rotate_left)
   | (refine ye ?_; refine a0b (⟨(i + 1, W (e - 1)), by dsimp only; omega, by dsimp only; rw [hk2]; simp [*]⟩) wn yf)
   | (refine ye ?_; refine a0b (⟨(i + 1, f.code[i].b), by dsimp only; omega, by dsimp only; rw [hk2]; simp [*]⟩) wn yf)
   | (refine ye ?_; refine a0b (⟨(i + 1, e), by dsimp only; omega, by dsimp only; rw [hk2]; simp [*]⟩) wn yf)
   | with_reducible first | refine wd ?_ | refine stpK ?_; intro K hK | refine stpC ?_; intro T E hT hE | refine stp2 ?_ ?_ <;> intro h | refine a1v (c31 _ _ _) yr ?_ | refine hpc (c31 _ _ _) yr ?_ | refine a1v (c61 p f _ hc hf hg hl) yr ?_ | refine hpc (c61 p f _ hc hf hg hl) yr ?_ | refine yg ?_; clear hK K | refine yh ?_; clear hT hE T E
   | simp [*, -List.all_flatten, -List.all_eq_true, DEFO, -Bool.decide_and, eqV, z1c, a0j, Ins.row, FnD.row, Gb.row, a0v, A1w, A1y]
  all_goals first
   | (simp_all [fnI, a8y, a8s, btw, W]; done)
   | (clear hk; simp_all [fnI, a8y, a8s, btw, W]; done)
   | (clear hk; rw [<- A2g]; intro hh; simp [fnI, a8y, a8s, btw, *] at hh <;> omega)
   | (clear hk; have q1 : f.code.length <= 1000 := ya; have q2 : f.regs <= 64 := ya; simp [fnI, a8y, a8s, btw, W, *]; done)
   | (rw [<- A2g]; intro hh; simp [fnI, a8y, a8s, btw, *] at hh <;> omega)
end Go.Je
namespace Go.Gv
open Go Go.FM
variable {i v : Nat}
def c5 : List Ins := [⟨18, 0, 0, 0, 0⟩, ⟨39, 0, 0, 0, 0⟩, ⟨18, 1, 1, 0, 0⟩, ⟨33, 1, 1, 0, 0⟩, ⟨18, 0, 0, 0, 0⟩, ⟨40, 0, 0, 0, 0⟩, ⟨30, -1, 0, 0, 0⟩]
def p5 : Pg := ⟨[⟨⟨⟨[109, 97, 105, 110]⟩⟩, 0, 2, c5⟩], [⟨⟨⟨[109]⟩⟩, 0⟩, ⟨⟨⟨[120]⟩⟩, 0⟩], [], 0⟩
theorem e3a : a0m p5 = true := by decide +kernel
theorem us5 : ∀ i, usC c5 i = if i = 1 \/ i = 5 then 0 else -1 := fun i => by
 match i with
 | 0 => decide +kernel
 | 1 => decide +kernel
 | 2 => decide +kernel
 | 3 => decide +kernel
 | 4 => decide +kernel
 | 5 => decide +kernel
 | 6 => decide +kernel
 | i + 7 => rw [if_neg ya]; rfl
theorem us5n (h : ¬ (i = 1 \/ i = 5)) : usC c5 i = -1 := (us5 i).trans (if_neg h)
theorem us5p (h : i = 1 \/ i = 5) : usC c5 i = 0 := (us5 i).trans (if_pos h)
theorem nx5 : ∀ i, i < 6 -> nx c5 i = [(i : Int) + 1] := fun i h => by
 match i, h with
 | 0, _ => decide +kernel
 | 1, _ => decide +kernel
 | 2, _ => decide +kernel
 | 3, _ => decide +kernel
 | 4, _ => decide +kernel
 | 5, _ => decide +kernel
theorem rc5 : ∀ i, i < 7 -> Rc c5 i
 | 0, _ => .zero yb
 | i + 1, h => by
   have := (rc5 i ya).step (v := (i : Int) + 1) (by rw [nx5 i ya]; simp)
   rwa [show ((i : Int) + 1).toNat = i + 1 by omega] at this
theorem hd5 (hi : i < 7) : Hd 64 c5 i v ↔ v = 0 /\ 2 <= i /\ i <= 5 := by
 have hp := Hd.post 64 c5
 have st : ∀ i, i < 6 -> Hd 64 c5 (i + 1) v -> if usC c5 i = (v : Int) then (c5.getD i ⟨0, 0, 0, 0, 0⟩).op = 39 else Hd 64 c5 i v := fun i h h1 => by
  have hl : i < c5.length := by show i < 7; omega
  have := hp.2.2 i hl (rc5 i ya) ((i : Int) + 1) (by rw [nx5 i h]; simp) v (by rwa [show ((i : Int) + 1).toNat = i + 1 by omega])
  rw [A5m, A5n hl]
  exact this
 have n0 : ¬ Hd 64 c5 0 v := hp.1 v
 have n1 : ¬ Hd 64 c5 1 v := fun h => by
  have := st 0 ya h
  rw [us5n ya, if_neg ya] at this
  exact n0 this
 have n2 : Hd 64 c5 2 v -> v = 0 := fun h => by
  have := st 1 ya h
  rw [us5p ya] at this
  split at this
  . omega
  . exact absurd this n1
 have nn : ∀ i, 2 <= i -> i < 5 -> Hd 64 c5 (i + 1) v -> Hd 64 c5 i v := fun i h1 h2 h => by
  have := st i ya h
  rw [us5n ya, if_neg ya] at this
  exact this
 have n3 : Hd 64 c5 3 v -> v = 0 := fun h => n2 (nn 2 ya ya h)
 have n4 : Hd 64 c5 4 v -> v = 0 := fun h => n3 (nn 3 ya ya h)
 have n5 : Hd 64 c5 5 v -> v = 0 := fun h => n4 (nn 4 ya ya h)
 have n6 : ¬ Hd 64 c5 6 v := fun h => by
  have := st 5 ya h
  rw [us5p ya] at this
  split at this
  . exact absurd this yb
  . rename_i e
    have := n5 this
    omega
 constructor
 . intro h
   have : i = 0 \/ i = 1 \/ i = 2 \/ i = 3 \/ i = 4 \/ i = 5 \/ i = 6 := by omega
   rcases this with rfl | rfl | rfl | rfl | rfl | rfl | rfl
   . exact absurd h n0
   . exact absurd h n1
   . exact ⟨n2 h, by omega, by omega⟩
   . exact ⟨n3 h, by omega, by omega⟩
   . exact ⟨n4 h, by omega, by omega⟩
   . exact ⟨n5 h, by omega, by omega⟩
   . exact absurd h n6
 . rintro ⟨rfl, h1, h2⟩
   refine ⟨fun i v => v = 0 /\ 2 <= i /\ i <= 5, ⟨fun v h => by omega, fun i v h => ⟨rc5 i ya, by omega⟩, fun i hl hr w hw v hv => ?_⟩, rfl, h1, h2⟩
   have hl7 : i < 7 := hl
   have h6 : i < 6 := by
    rcases A0r i 6 with h | h
    . exact h
    . have e : i = 6 := by omega
      subst e
      rw [show nx c5 6 = [] by decide +kernel] at hw
      cases hw
   rw [nx5 i h6] at hw
   obtain rfl : w = (i : Int) + 1 := by simpa using hw
   rw [show ((i : Int) + 1).toNat = i + 1 by omega] at hv
   obtain ⟨rfl, g1, g2⟩ := hv
   by_cases e1 : i = 1
   . subst e1; rw [us5p ya, if_pos ya]; rfl
   . rw [us5n ya, if_neg ya]
     show (0 : Nat) = 0 /\ 2 <= i /\ i <= 5
     exact ⟨rfl, by omega, by omega⟩
theorem op5 (hi : i < c5.length) : c5[i].op ≠ 51 := by
 have h7 : i < 7 := hi
 have : i = 0 \/ i = 1 \/ i = 2 \/ i = 3 \/ i = 4 \/ i = 5 \/ i = 6 := by omega
 rcases this with rfl | rfl | rfl | rfl | rfl | rfl | rfl <;> simp [c5]
theorem g5 (hi : i < 7) (hv : v < 64) : ((hdG 64 c5).getD i 0).getLsbD v = true ↔ v = 0 /\ 2 <= i /\ i <= 5 := by
 have hl : i < c5.length := hi
 rw [c1h hl hv, a5o hl (op5 hl), hd5 hi]
theorem g9b {x : Pts} (hv : v < 64) : (a7i p5 x).getLsbD v = true := by
 rw [e7p hv]
 constructor
 . rintro ⟨f, hf, i, hi, h1, h2, _⟩
   obtain rfl : f = 0 := by have : f < 1 := hf; omega
   have h2 : usC c5 i < 0 := h2
   have hi : i < c5.length := hi
   have h1 : lkO c5[i].op = true := h1
   rw [us5] at h2
   have h7 : i < 7 := hi
   have : i = 0 \/ i = 1 \/ i = 2 \/ i = 3 \/ i = 4 \/ i = 5 \/ i = 6 := by omega
   rcases this with rfl | rfl | rfl | rfl | rfl | rfl | rfl <;> first | (simp [c5, lkO] at h1; done) | (simp at h2; done)
 . intro f hf i hi h40 hu
   obtain rfl : f = 0 := by have : f < 1 := hf; omega
   have hu : usC c5 i = (v : Int) := hu
   have hi : i < 7 := hi
   show ((hdG 64 c5).getD i 0).getLsbD v = true
   rw [g5 hi hv]
   rw [us5] at hu
   have h40 : (c5[i]'hi).op = 40 := h40
   split at hu
   . rename_i e
     rcases e with rfl | rfl
     . simp [c5] at h40
     . omega
   . omega
theorem g9z {s : BitVec 64} {b : Bool} (h : ∀ v, v < 64 -> (s.getLsbD v = true ↔ v = 0 /\ b = true)) : a4s s = if b = true then [0] else [] := by
 unfold a4s
 have e : (List.range 64).filter (fun v => s.getLsbD v) = (List.range 64).filter fun v => decide (v = 0 /\ b = true) := List.filter_congr fun v hv => by
  rw [A2n, h v (A2k.1 hv), decide_eq_true_iff]
 rw [e]
 cases b <;> decide
theorem g8d (x : Pts) : a5n p5 x c5 = [[], [], [0], [0], [0], [0], []] := by
 have key : ∀ i (hi : i < 7), a4s ((hdG 64 c5)[i]'z2h &&& a7i p5 x) = if decide (2 <= i /\ i <= 5) = true then [0] else [] := fun i hi => by
  refine g9z fun v hv => ?_
  have e : (hdG 64 c5)[i]'z2h = (hdG 64 c5).getD i 0 := by rw [A5m, A5n z2h]; rfl
  rw [e, A1k, g9b hv, Bool.and_true, g5 hi hv, decide_eq_true_iff]
 apply A0e
 . simp [a5n, a7f]; rfl
 . intro i h1 h2
   have hi : i < 7 := h2
   have e : (a5n p5 x c5)[i] = if decide (2 <= i /\ i <= 5) = true then [0] else [] := by
    rw [<- key i hi]; simp [a5n]
   refine e.trans ?_
   clear e h1
   have : i = 0 \/ i = 1 \/ i = 2 \/ i = 3 \/ i = 4 \/ i = 5 \/ i = 6 := by omega
   rcases this with rfl | rfl | rfl | rfl | rfl | rfl | rfl <;> rfl
end Go.Gv
