/- Parts of the proof. -/
import Derived.Test.YtfhhgjbcenhdeaaGreatDoorF13
set_option linter.unusedSimpArgs false
set_option linter.unusedVariables false
namespace Go.Je
open Go Go.FM Go.Gv Go.Proofs
set_option maxRecDepth 100000
set_option maxHeartbeats 40000000
theorem e1c {l : List FnD} {n : Nat} {z : FnD} (h : l[n]? = some z) : (fns l)[n]? = some [.str z.name, .int .i64 z.params, .int .i64 z.regs, .list 5 (inss z.code)] := by simp [fns, h, FnD.row]
theorem c21 (p : Pg) (hf : p.funcs.length <= 2000000) (hg : p.globals.length <= 2000000) (hl : p.layouts.length <= 2000000) (hb : ∀ x ∈ p.layouts, x.length <= 2000000) (hfc : ∀ x ∈ p.funcs, x.code.length <= 2000000) : PC Tryz.prog Gl 17 [.agg [.list 4 (fns p.funcs), .list 2 (gbs p.globals), .list 1 (lays p.layouts), .int .i64 p.main]] (.bool (a2c p)) := by
 rcases d0d p with ⟨h1, hh⟩ | ⟨h1, h2, hh⟩ | ⟨h1, h2, h3, hh⟩ | ⟨h1, h2, h3, h4, hh⟩ | ⟨h1, h2, h3, h4, h5, hh⟩ | ⟨h1, h2, h3, h4, h5, z, hm, hz, h6, hh⟩ | ⟨h1, h2, h3, h4, h5, z, hm, hz, h6, hh⟩
 all_goals try (have hz2 := e1c hz)
 all_goals
  refine a8v (res := [.tmp 2]) 8 119 [] (fun d ix => d :: ix) (fn := Tryz.f17) (by kernel_rfl) (by rfl) (by rfl) (by rfl) (by simp) (by decide) ?_
  repeat' first
   | ((with_reducible refine a1a ?_); refine a7t (fun y : {i : Nat // i <= p.globals.length /\ gOk p i} => (⟨[.agg [.list 4 (fns p.funcs), .list 2 (gbs p.globals), .list 1 (lays p.layouts), .int .i64 p.main], .ptr [1] 4 0 0, .bool false, .int .i64 (y.1 : Int), .undef, .undef, .undef, .undef], [], hpL [([1], .cells 26 4 [[.list 4 (fns p.funcs), .list 2 (gbs p.globals), .list 1 (lays p.layouts), .int .i64 p.main]])], []⟩ : Fs)) (fun y => p.globals.length - y.1) ⟨0, by simp, f8d p⟩ (a3m [] (fun _ h => h) (by rfl) ?_ ?_ ?_) ?_; (focus (simp [*, SIMF, NLQ, tL_, fA_, *]; done)); (focus (simp [*, SIMF, NLQ, tL_, fA_]; done)); (focus (simp [*, SIMF, NLQ, tL_, fA_, *]; done)); rintro ⟨i, hi, hk⟩; (try dsimp only at hi hk); rcases a0z hi with hlt | ⟨hlt, rfl⟩; rotate_left; have hgk := hk; rotate_left; have wi := wli hlt (by omega); rcases d6z (p.globals[i]'hlt).name with ⟨n1, n2⟩ | ⟨n1, n2⟩; rotate_left; rcases e0x (p.globals[i]'hlt).kind with ⟨k1, k2⟩ | ⟨k0, k1, k2⟩ | ⟨k0, k1, k2⟩)
   | ((with_reducible refine a1a ?_); refine a7t (fun y : {j : Nat // j <= i /\ gDi p i j} => (⟨[.agg [.list 4 (fns p.funcs), .list 2 (gbs p.globals), .list 1 (lays p.layouts), .int .i64 p.main], .ptr [1] 4 0 0, .bool false, .int .i64 (i : Int), .ptr [4] 2 0 0, .int .i64 (y.1 : Int), .undef, .undef], [], hpL [([1], .cells 26 4 [[.list 4 (fns p.funcs), .list 2 (gbs p.globals), .list 1 (lays p.layouts), .int .i64 p.main]]), ([4], .cells 79 2 [[.str (p.globals[i]'hlt).name, .int .i64 (p.globals[i]'hlt).kind]])], []⟩ : Fs)) (fun y => i - y.1) ⟨0, by simp, f8f p i⟩ (a3m [] (fun _ h => h) (by rfl) ?_ ?_ ?_) ?_; (focus (simp [*, SIMF, NLQ, tL_, fA_, *]; done)); (focus (simp [*, SIMF, NLQ, tL_, fA_]; done)); (focus (simp [*, SIMF, NLQ, tL_, fA_, *]; done)); rintro ⟨j, hj, hd⟩; (try dsimp only at hj hd); rcases a0z hj with hjl | ⟨hjl, rfl⟩; have hjg : j < p.globals.length := (by omega); have wj := wli hjl (by omega); rcases c8f (p.globals[j]'hjg).name.data.toList (p.globals[i]'hlt).name.data.toList with ⟨q1, q2⟩ | ⟨q1, q2⟩)
   | ((with_reducible refine a1a ?_); refine a7t (fun y : {i : Nat // i <= p.funcs.length /\ fOk p i} => (⟨[.agg [.list 4 (fns p.funcs), .list 2 (gbs p.globals), .list 1 (lays p.layouts), .int .i64 p.main], .ptr [1] 4 0 0, .bool false, .undef, .undef, .undef, .int .i64 (y.1 : Int), .undef], [], hpL [([1], .cells 26 4 [[.list 4 (fns p.funcs), .list 2 (gbs p.globals), .list 1 (lays p.layouts), .int .i64 p.main]])], []⟩ : Fs)) (fun y => p.funcs.length - y.1) ⟨0, by simp, f8o p⟩ (a3m [] (fun _ h => h) (by rfl) ?_ ?_ ?_) ?_; (focus (simp [*, SIMF, NLQ, tL_, fA_, *]; done)); (focus (simp [*, SIMF, NLQ, tL_, fA_]; done)); (focus (simp [*, SIMF, NLQ, tL_, fA_, *]; done)); rintro ⟨i, hi, hk⟩; (try dsimp only at hi hk); rcases a0z hi with hlt | ⟨hlt, rfl⟩; have wi := wli hlt (by omega); have hcc := hfc _ (gm_ hlt); cases hfn : fnR p (p.funcs[i]'hlt))
   | ((with_reducible refine a1a ?_); refine a7t (fun y : {j : Nat // j <= i /\ fDi p i j} => (⟨[.agg [.list 4 (fns p.funcs), .list 2 (gbs p.globals), .list 1 (lays p.layouts), .int .i64 p.main], .ptr [1] 4 0 0, .bool false, .undef, .undef, .undef, .int .i64 (i : Int), .int .i64 (y.1 : Int)], [], hpL [([1], .cells 26 4 [[.list 4 (fns p.funcs), .list 2 (gbs p.globals), .list 1 (lays p.layouts), .int .i64 p.main]])], []⟩ : Fs)) (fun y => i - y.1) ⟨0, by simp, f8q p i⟩ (a3m [] (fun _ h => h) (by rfl) ?_ ?_ ?_) ?_; (focus (simp [*, SIMF, NLQ, tL_, fA_, *]; done)); (focus (simp [*, SIMF, NLQ, tL_, fA_]; done)); (focus (simp [*, SIMF, NLQ, tL_, fA_, *]; done)); rintro ⟨j, hj, hd⟩; (try dsimp only at hj hd); rcases a0z hj with hjl | ⟨hjl, rfl⟩; have hjg : j < p.funcs.length := (by omega); have wj := wli hjl (by omega); rcases c8f (p.funcs[j]'hjg).name.data.toList (p.funcs[i]'hlt).name.data.toList with ⟨q1, q2⟩ | ⟨q1, q2⟩)
   | ((with_reducible refine a0q ?_); refine a1b (⟨j + 1, by omega, f8e hd hlt (by omega) (by simpa [Gb.nm] using q2)⟩) (a3m [] (fun _ h => h) (by rfl) ?_ ?_ ?_) (by dsimp only; omega); (iterate 3 (focus (simp [*, SIMF, NLQ, tL_, fA_, *]; done))))
   | ((with_reducible refine a0q ?_); refine a1b (⟨j + 1, by omega, f8p hd hlt (by omega) (by simpa [FnD.nm] using q2)⟩) (a3m [] (fun _ h => h) (by rfl) ?_ ?_ ?_) (by dsimp only; omega); (iterate 3 (focus (simp [*, SIMF, NLQ, tL_, fA_, *]; done))))
   | ((with_reducible refine a0q ?_); refine a1b (⟨_ + 1, by omega, f8c hk hlt (by simpa [Gb.nm] using n2) k2 hd⟩) (a3m [] (fun _ h => h) (by rfl) ?_ ?_ ?_) (by dsimp only; omega); (iterate 3 (focus (simp [*, SIMF, NLQ, tL_, fA_, *]; done))))
   | ((with_reducible refine a0q ?_); refine a1b (⟨_ + 1, by omega, f8n hk hlt hfn hd⟩) (a3m [] (fun _ h => h) (by rfl) ?_ ?_ ?_) (by dsimp only; omega); (iterate 3 (focus (simp [*, SIMF, NLQ, tL_, fA_, *]; done))))
   | with_reducible first | refine stp ?_ | refine stpK ?_; intro K hK | refine stpC ?_; intro T E hT hE | refine stp2 ?_ ?_ <;> intro h | refine a2j (id := 22) 13 a0y (by kernel_rfl) fun K hK => ?_ | refine a2j (id := 17) 8 a0y (by kernel_rfl) fun K hK => ?_ | refine a2j (id := 12) 9 a0y (by kernel_rfl) fun K hK => ?_ | refine a0g rfl ?_ | refine a1e (c37 _ hl hb) (by simp [nls, nl, *, a0b, a0e, a0m, a0c, a0a]) ?_ | refine hpc (c37 _ hl hb) (by simp [nls, nl, *, a0b, a0e, a0m, a0c, a0a]) ?_ | refine a1e (c38 p _ hcc hf hg hl) (by simp [nls, nl, *, a0b, a0e, a0m, a0c, a0a]) ?_ | refine hpc (c38 p _ hcc hf hg hl) (by simp [nls, nl, *, a0b, a0e, a0m, a0c, a0a]) ?_ | refine a0j rfl (by decide) a0i ?_ | refine a0j rfl (by decide) (a0h (by simp [upd, noH, ext, a4w, a3l, *])) ?_ | refine a1g (by decide) (by kernel_rfl) ?_ | refine a0o (by decide) ?_ | refine Kont.go hK ?_; clear hK K | refine KT.go hT ?_; clear hT hE T E | refine KT.go hE ?_; clear hT hE T E
   | simp [*, -List.all_flatten, -List.all_eq_true, DEFO, -Bool.decide_and, eqV, a0n, a0x, a1c, a3c, a1n, a0a, a0b, a0e, a0m, a0c, a4z, a2b, a2o, a9b, a6k, a2f, Ins.row, FnD.row, Gb.row, a3w, Int.le_sub_one_iff, List.length_drop, Gb.row]
  all_goals first
   | (simp [e4u hh]; done)
   | (have := vf_g hlt (.inl (by simpa [Gb.nm] using n2)); simp [this]; done)
   | (have := vf_g hlt (.inr k2); simp [this]; done)
   | (have := f5w hlt hjl (by simpa [Gb.nm] using q2); simp [this]; done)
   | (have := vf_f hlt hfn; simp [this]; done)
   | (have := f5x hlt hjl (by simpa [FnD.nm] using q2); simp [this]; done)
   | (have := vt hh hgk hk; simp [this]; done)
   | trace_state
end Go.Je
namespace Go.Gv
open Go Go.FM
set_option maxRecDepth 100000
set_option maxHeartbeats 40000000
open Classical in
theorem f4r {N : Nat} (P : Nat -> Prop) : ∀ m, ∃ b : BitVec N, ∀ v, v < N -> (b.getLsbD v = true ↔ v < m /\ P v)
 | 0 => ⟨0, fun v _ => by simp⟩
 | m + 1 => by
   obtain ⟨b, hb⟩ := f4r P m
   by_cases h : P m
   . refine ⟨b ||| BitVec.twoPow N m, fun v hv => ?_⟩
     rw [BitVec.getLsbD_or, BitVec.getLsbD_twoPow, Bool.or_eq_true, hb v hv]
     by_cases e : m = v
     . subst e; simp [hv, h]
     . simp [e]
       intro _; omega
   . refine ⟨b, fun v hv => ?_⟩
     rw [hb v hv]
     constructor
     . rintro ⟨h1, h2⟩; exact ⟨by omega, h2⟩
     . rintro ⟨h1, h2⟩
       by_cases e : v = m
       . subst e; exact absurd h2 h
       . exact ⟨by omega, h2⟩
theorem e7u {N : Nat} {c : List Ins} {i v : Nat} (hv : v < N) : (hdB N c i).getLsbD v = true ↔ Hd N c (hd c i) v := by
 obtain ⟨b, hb⟩ := f4r (N := N) (fun v => Hd N c (hd c i) v) N
 have h2 : ∀ v, v < N -> (b.getLsbD v = true ↔ Hd N c (hd c i) v) := fun v hv => (hb v hv).trans ⟨fun h => h.2, fun h => ⟨hv, h⟩⟩
 rw [e3l h2]
 exact h2 v hv
theorem d5c {N : Nat} {c : List Ins} {i v : Nat} (hi : i < c.length) (hv : v < N) : ((hdG N c).getD i 0).getLsbD v = true ↔ Hd N c (hd c i) v := by
 have : (hdG N c).getD i 0 = hdB N c i := by
  rw [gD_, gE_ (by rw [a6f]; exact hi)]
  simp [hdG]
 rw [this]; exact e7u hv
section
variable {nm : ByteArray} {k : Int}
end
noncomputable def a6x (p : Pg) (x : Pts) (c : List Ins) : List (List Int) := (hdG 64 c).map fun s => a6h (s &&& b0y p x)
end Go.Gv
namespace Go.Gv
open Go Go.FM
set_option maxRecDepth 100000
set_option maxHeartbeats 40000000
section
variable {p : Pg} {nm : ByteArray} {k : Int}
end
def c5 : List Ins := [⟨18, 0, 0, 0, 0⟩, ⟨39, 0, 0, 0, 0⟩, ⟨18, 1, 1, 0, 0⟩, ⟨33, 1, 1, 0, 0⟩, ⟨18, 0, 0, 0, 0⟩, ⟨40, 0, 0, 0, 0⟩, ⟨30, -1, 0, 0, 0⟩]
def p5 : Pg := ⟨[⟨⟨⟨[109, 97, 105, 110]⟩⟩, 0, 2, c5⟩], [⟨⟨⟨[109]⟩⟩, 0⟩, ⟨⟨⟨[120]⟩⟩, 0⟩], [], 0⟩
theorem d8g : a2c p5 = true := by decide +kernel
theorem us5 : ∀ i, usC c5 i = if i = 1 \/ i = 5 then 0 else -1 := fun i => by
 match i with
 | 0 => decide +kernel
 | 1 => decide +kernel
 | 2 => decide +kernel
 | 3 => decide +kernel
 | 4 => decide +kernel
 | 5 => decide +kernel
 | 6 => decide +kernel
 | i + 7 => rw [if_neg (by omega)]; rfl
theorem us5n {i : Nat} (h : ¬ (i = 1 \/ i = 5)) : usC c5 i = -1 := (us5 i).trans (if_neg h)
theorem us5p {i : Nat} (h : i = 1 \/ i = 5) : usC c5 i = 0 := (us5 i).trans (if_pos h)
theorem nx5 : ∀ i, i < 6 -> nx c5 i = [(i : Int) + 1] := fun i h => by
 match i, h with
 | 0, _ => decide +kernel
 | 1, _ => decide +kernel
 | 2, _ => decide +kernel
 | 3, _ => decide +kernel
 | 4, _ => decide +kernel
 | 5, _ => decide +kernel
theorem rc5 : ∀ i, i < 7 -> Rc c5 i
 | 0, _ => .zero (by decide)
 | i + 1, h => by
   have := (rc5 i (by omega)).step (v := (i : Int) + 1) (by rw [nx5 i (by omega)]; simp)
   rwa [show ((i : Int) + 1).toNat = i + 1 by omega] at this
theorem hd5 {i v : Nat} (hi : i < 7) : Hd 64 c5 i v ↔ v = 0 /\ 2 <= i /\ i <= 5 := by
 have hp := Hd.post 64 c5
 have st : ∀ i, i < 6 -> Hd 64 c5 (i + 1) v -> if usC c5 i = (v : Int) then (c5.getD i ⟨0, 0, 0, 0, 0⟩).op = 39 else Hd 64 c5 i v := fun i h h1 => by
  have hl : i < c5.length := by show i < 7; omega
  have := hp.2.2 i hl (rc5 i (by omega)) ((i : Int) + 1) (by rw [nx5 i h]; simp) v (by rwa [show ((i : Int) + 1).toNat = i + 1 by omega])
  rw [gD_, gE_ hl]
  exact this
 have n0 : ¬ Hd 64 c5 0 v := hp.1 v
 have n1 : ¬ Hd 64 c5 1 v := fun h => by
  have := st 0 (by omega) h
  rw [us5n (by omega), if_neg (by omega)] at this
  exact n0 this
 have n2 : Hd 64 c5 2 v -> v = 0 := fun h => by
  have := st 1 (by omega) h
  rw [us5p (by omega)] at this
  split at this
  . omega
  . exact absurd this n1
 have nn : ∀ i, 2 <= i -> i < 5 -> Hd 64 c5 (i + 1) v -> Hd 64 c5 i v := fun i h1 h2 h => by
  have := st i (by omega) h
  rw [us5n (by omega), if_neg (by omega)] at this
  exact this
 have n3 : Hd 64 c5 3 v -> v = 0 := fun h => n2 (nn 2 (by omega) (by omega) h)
 have n4 : Hd 64 c5 4 v -> v = 0 := fun h => n3 (nn 3 (by omega) (by omega) h)
 have n5 : Hd 64 c5 5 v -> v = 0 := fun h => n4 (nn 4 (by omega) (by omega) h)
 have n6 : ¬ Hd 64 c5 6 v := fun h => by
  have := st 5 (by omega) h
  rw [us5p (by omega)] at this
  split at this
  . exact absurd this (by decide)
  . rename_i e
    have := n5 this
    omega
 constructor
 . intro h
   have : i = 0 \/ i = 1 \/ i = 2 \/ i = 3 \/ i = 4 \/ i = 5 \/ i = 6 := by omega
   rcases this with rfl | rfl | rfl | rfl | rfl | rfl | rfl
   . exact absurd h n0
   . exact absurd h n1
   . exact ⟨n2 h, by omega, by omega⟩
   . exact ⟨n3 h, by omega, by omega⟩
   . exact ⟨n4 h, by omega, by omega⟩
   . exact ⟨n5 h, by omega, by omega⟩
   . exact absurd h n6
 . rintro ⟨rfl, h1, h2⟩
   refine ⟨fun i v => v = 0 /\ 2 <= i /\ i <= 5, ⟨fun v h => by omega, fun i v h => ⟨rc5 i (by omega), by omega⟩, fun i hl hr w hw v hv => ?_⟩, rfl, h1, h2⟩
   have hl7 : i < 7 := hl
   have h6 : i < 6 := by
    rcases Nat.lt_or_ge i 6 with h | h
    . exact h
    . have e : i = 6 := by omega
      subst e
      rw [show nx c5 6 = [] by decide +kernel] at hw
      cases hw
   rw [nx5 i h6] at hw
   obtain rfl : w = (i : Int) + 1 := by simpa using hw
   rw [show ((i : Int) + 1).toNat = i + 1 by omega] at hv
   obtain ⟨rfl, g1, g2⟩ := hv
   by_cases e1 : i = 1
   . subst e1; rw [us5p (by omega), if_pos (by omega)]; rfl
   . rw [us5n (by omega), if_neg (by omega)]
     show (0 : Nat) = 0 /\ 2 <= i /\ i <= 5
     exact ⟨rfl, by omega, by omega⟩
theorem op5 {i : Nat} (hi : i < c5.length) : c5[i].op ≠ 51 := by
 have h7 : i < 7 := hi
 have : i = 0 \/ i = 1 \/ i = 2 \/ i = 3 \/ i = 4 \/ i = 5 \/ i = 6 := by omega
 rcases this with rfl | rfl | rfl | rfl | rfl | rfl | rfl <;> simp [c5]
theorem g5 {i v : Nat} (hi : i < 7) (hv : v < 64) : ((hdG 64 c5).getD i 0).getLsbD v = true ↔ v = 0 /\ 2 <= i /\ i <= 5 := by
 have hl : i < c5.length := hi
 rw [d5c hl hv, a6y hl (op5 hl), hd5 hi]
theorem f8t {x : Pts} {v : Nat} (hv : v < 64) : (b0y p5 x).getLsbD v = true := by
 rw [e1u hv]
 constructor
 . rintro ⟨f, hf, i, hi, h1, h2, _⟩
   obtain rfl : f = 0 := by have : f < 1 := hf; omega
   have h2 : usC c5 i < 0 := h2
   have hi : i < c5.length := hi
   have h1 : lkO c5[i].op = true := h1
   rw [us5] at h2
   have h7 : i < 7 := hi
   have : i = 0 \/ i = 1 \/ i = 2 \/ i = 3 \/ i = 4 \/ i = 5 \/ i = 6 := by omega
   rcases this with rfl | rfl | rfl | rfl | rfl | rfl | rfl <;> first | (simp [c5, lkO] at h1; done) | (simp at h2; done)
 . intro f hf i hi h40 hu
   obtain rfl : f = 0 := by have : f < 1 := hf; omega
   have hu : usC c5 i = (v : Int) := hu
   have hi : i < 7 := hi
   show ((hdG 64 c5).getD i 0).getLsbD v = true
   rw [g5 hi hv]
   rw [us5] at hu
   have h40 : (c5[i]'hi).op = 40 := h40
   split at hu
   . rename_i e
     rcases e with rfl | rfl
     . simp [c5] at h40
     . omega
   . omega
theorem f9r {s : BitVec 64} {b : Bool} (h : ∀ v, v < 64 -> (s.getLsbD v = true ↔ v = 0 /\ b = true)) : a6h s = if b = true then [0] else [] := by
 unfold a6h
 have e : (List.range 64).filter (fun v => s.getLsbD v) = (List.range 64).filter fun v => decide (v = 0 /\ b = true) := List.filter_congr fun v hv => by
  rw [Bool.eq_iff_iff, h v (List.mem_range.1 hv), decide_eq_true_iff]
 rw [e]
 cases b <;> decide
theorem f7x (x : Pts) : a6x p5 x c5 = [[], [], [0], [0], [0], [0], []] := by
 have key : ∀ i (hi : i < 7), a6h ((hdG 64 c5)[i]'(by rw [a6f]; exact hi) &&& b0y p5 x) = if decide (2 <= i /\ i <= 5) = true then [0] else [] := fun i hi => by
  refine f9r fun v hv => ?_
  have e : (hdG 64 c5)[i]'(by rw [a6f]; exact hi) = (hdG 64 c5).getD i 0 := by rw [gD_, gE_ (by rw [a6f]; exact hi)]; rfl
  rw [e, BitVec.getLsbD_and, f8t hv, Bool.and_true, g5 hi hv, decide_eq_true_iff]
 apply List.ext_getElem
 . simp [a6x, a6f]; rfl
 . intro i h1 h2
   have hi : i < 7 := h2
   have e : (a6x p5 x c5)[i] = if decide (2 <= i /\ i <= 5) = true then [0] else [] := by
    rw [<- key i hi]; simp [a6x]
   refine e.trans ?_
   clear e h1
   have : i = 0 \/ i = 1 \/ i = 2 \/ i = 3 \/ i = 4 \/ i = 5 \/ i = 6 := by omega
   rcases this with rfl | rfl | rfl | rfl | rfl | rfl | rfl <;> rfl
end Go.Gv
