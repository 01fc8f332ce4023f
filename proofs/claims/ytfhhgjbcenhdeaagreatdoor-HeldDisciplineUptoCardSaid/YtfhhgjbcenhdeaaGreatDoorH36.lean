/- Parts of the proof. -/
import Derived.Test.YtfhhgjbcenhdeaaGreatDoorH34
import Derived.Test.YtfhhgjbcenhdeaaGreatDoorH17
import Derived.Test.YtfhhgjbcenhdeaaGreatDoorH35
import Derived.Test.YtfhhgjbcenhdeaaGreatDoorRows
set_option linter.unusedSimpArgs false
set_option linter.unusedVariables false
namespace Go.Je
open Go Go.FM Go.Gv Go.Proofs
set_option maxRecDepth 100000
set_option maxHeartbeats 40000000
theorem d0g {p : Pg} {f : Nat} {nm : ByteArray} {pa rg : Int} {c : List Ins} (hF : FOk p f nm pa rg c) (hu64 : ∀ i, usC c i < 64) {B : Heap} (hB : BsL f B) : FC Tryz.prog Gl 40 [.agg [.list 4 (fns p.funcs), .list 2 (gbs p.globals), .list 1 (lays p.layouts), .int .i64 p.main], .int .i64 f] (HP [] B noH) (.ptr [95, f] 11 0 0) (HP [([95, f], .cells 72 11 [[.list 4 (fns p.funcs), .list 2 (gbs p.globals), .list 1 (lays p.layouts), .int .i64 p.main, .int .i64 f, .str nm, .int .i64 pa, .int .i64 rg, .list 5 (inss c), .sl [96, f] 1 0 c.length, .sl [97, f] 1 0 c.length]]), ([96, f], .cells 3 1 (ints (usL c))), ([97, f], .cells 68 1 (u64s (hdG 64 c)))] B noH) := by
 have hc := hF.hc
 have hf := hF.hf
 have he := hF.e
 have hfl := hF.h1
 have h1000 := hc.n1000
 have hbl := c4q c hc
 have hst0 := g7q hc
 have fB : ∀ r, B (5 :: r) = none := fun r => hB.fr 5 r (Nat.le_refl _)
 have f95 := hB.f95
 have f96 := hB.f96
 have f97 := hB.f97
 have hfa : f < (fns p.funcs).length := by rw [a0j]; exact hf
 obtain ⟨ord, hord, hol, tOrd⟩ := e4j (nm := nm) (pa := pa) (rg := rg) hc
 obtain ⟨ons, hons⟩ : ∃ w, BitVec.allOnes 64 = w := ⟨_, rfl⟩
 have hro := d7r
 rw [hons] at hro
 simp at hro
 refine a5y (res := [.tmp 4]) 16 116 [37, 36, 35, 101, 100, 99] (fun d ix => 5 :: d :: ix) (fn := Tryz.f40) (by kernel_rfl) (by rfl) (by rfl) (by rfl) (by simp) (by decide) ?_
 repeat' first
  | ((with_reducible refine f5j hB.toH ?_ ?_ ?_ ?_); (focus (simp [fB, f95, f96, f97]; done)); (focus (simp [HPXB]; done)); (focus (simp [nin, inH, HPXB]; done)); (focus (simp [ninL, ninO, a3o, nins, nin, a0d, a0g, a0a, a0c, a0b, a1x, a6f, a6l, inH, HPXB, bRow, *]; done)))
  | ((with_reducible refine a2c ?_); refine a3f (σ := {j : Nat // j <= (blks c).length}) (fun y => [(5, .ptr [95, f] 11 0 0), (9, .undef), (10, .undef), (11, .undef), (12, .undef)]) [36, 35] (fun y => [(37, .int .i64 (y.1 : Int))]) [[5, 24]] (fun y => [([95, f], .cells 72 11 [[.list 4 (fns p.funcs), .list 2 (gbs p.globals), .list 1 (lays p.layouts), .int .i64 p.main, .int .i64 f, .str nm, .int .i64 pa, .int .i64 rg, .list 5 (inss c), .sl [96, f] 1 0 (stJ c y.1), .sl [97, f] 1 0 (stJ c y.1)]]), ([96, f], .cells 3 1 (ints ((usL c).take (stJ c y.1)))), ([97, f], .cells 68 1 (u64s ((g0B 64 c).take (stJ c y.1))))]) (fun y => noH) (fun y => (blks c).length - y.1) ⟨0, by simp⟩ (gk5S [([95, f], some [5, 24]), ([96, f], none), ([97, f], none)] rfl hB.c5 hB.l5 ?_ ?_ ?_ ?_ ?_ ?_) ?_; (focus (simp [LPXB, *, SIMB, a0n, a0h, fB, f95, f96, f97, a0k, a0q, a1l, a1x, a2q, a2u, a2p, a2k, hst0, List.take_zero, a0u, b2e]; done)); (focus (simp [LPXB, *, SIMB, a0n, a0h, fB, f95, f96, f97, a0k, a0q, a1l, a1x, a2q, a2u, a2p, a2k, hst0, List.take_zero, a0u, b2e]; done)); (focus (simp [injB, bk, LPXB]; done)); (focus (simp [LPXB, *, SIMB, bk_n, bk_c, inH, a0n, a0h, fB, f95, f96, f97, a0k, a0q, a1l, a1x, a2q, a2u, a2p, a2k, hst0, List.take_zero, a0u, b2e]; done)); (focus (simp [LPXB, *, SIMB, bk_n, bk_c, inH, a0n, a0h, fB, f95, f96, f97, a0k, a0q, a1l, a1x, a2q, a2u, a2p, a2k, hst0, List.take_zero, a0u, b2e]; done)); (focus (simp [LPXB, *, SIMB, bk_n, bk_c, inH, a0n, a0h, fB, f95, f96, f97, a0k, a0q, a1l, a1x, a2q, a2u, a2p, a2k, hst0, List.take_zero, a0u, b2e]; done)); rintro ⟨j, hj⟩; simp only [lpS, LPXB]; (try dsimp only at hj); rcases a1y hj with hlt | ⟨hlt, e⟩; rotate_left; subst e; have hse := e4l c; have htu : (usL c).take c.length = usL c := List.take_of_length_le (by rw [a2q]; exact Nat.le_refl _); have htg : (g0B 64 c).take c.length = g0B 64 c := List.take_of_length_le (by rw [a2u]; exact Nat.le_refl _); simp only [hse, htu, htg]; rotate_left; have wj := wli hlt (by omega); obtain ⟨hBk, hBl⟩ := b3a hlt; have hBlt := hBk.lt; have hsj := d0t hlt; have hsn := g7p hc hlt; have hnum := hBk.num; obtain ⟨b1, hb1⟩ : ∃ b1, (blks c)[j].1 = b1 := ⟨_, rfl⟩; obtain ⟨b2, hb2⟩ : ∃ b2, (blks c)[j].2 = b2 := ⟨_, rfl⟩; rw [hb1] at hsj hBlt hnum; rw [hb2] at hsn hBlt hnum hBl; simp only [hsj]; rotate_left)
  | ((with_reducible refine a2c ?_); refine a3f (σ := {i : Nat // b1 <= i /\ i <= b2}) (fun y => [(10, .int .i64 (y.1 : Int)), (11, .undef), (12, .undef)]) [36, 35, 37] (fun y => []) [] (fun y => [([95, f], .cells 72 11 [[.list 4 (fns p.funcs), .list 2 (gbs p.globals), .list 1 (lays p.layouts), .int .i64 p.main, .int .i64 f, .str nm, .int .i64 pa, .int .i64 rg, .list 5 (inss c), .sl [96, f] 1 0 y.1, .sl [97, f] 1 0 y.1]]), ([96, f], .cells 3 1 (ints ((usL c).take y.1))), ([97, f], .cells 68 1 (u64s ((g0B 64 c).take y.1)))]) (fun y => noH) (fun y => b2 - y.1) ⟨b1, Nat.le_refl _, by omega⟩ (gk5S [] rfl hB.c5 hB.l5 ?_ ?_ ?_ ?_ ?_ ?_) ?_; (focus (simp [LPXB, *, SIMB, a0n, a0h, fB, f95, f96, f97, a0k, a0q, a1l, a1x, a2q, a2u, a2p, a2k]; done)); (focus (simp [LPXB, *, SIMB, a0n, a0h, fB, f95, f96, f97, a0k, a0q, a1l, a1x, a2q, a2u, a2p, a2k]; done)); (focus (simp [injB, bk, LPXB]; done)); (focus (simp [LPXB, *, SIMB, bk_n, bk_c, inH, a0n, a0h, fB, f95, f96, f97, a0k, a0q, a1l, a1x, a2q, a2u, a2p, a2k]; done)); (focus (simp [LPXB, *, SIMB, bk_n, bk_c, inH, a0n, a0h, fB, f95, f96, f97, a0k, a0q, a1l, a1x, a2q, a2u, a2p, a2k]; done)); (focus (simp [LPXB, *, SIMB, bk_n, bk_c, inH, a0n, a0h, fB, f95, f96, f97, a0k, a0q, a1l, a1x, a2q, a2u, a2p, a2k]; done)); rintro ⟨i, hi1, hi2⟩; simp only [lpS, LPXB]; (try dsimp only at hi1 hi2); have hlu : ((usL c).take i).length = i := (by rw [List.length_take, a2q]; omega); have hlg : ((g0B 64 c).take i).length = i := (by rw [List.length_take, a2u]; omega); have htu : (ints ((usL c).take i)).take i = ints ((usL c).take i) := List.take_of_length_le (by rw [a0e]; omega); have htg : (u64s ((g0B 64 c).take i)).take i = u64s ((g0B 64 c).take i) := List.take_of_length_le (by rw [a1l]; omega); rcases a1y hi2 with hlti | ⟨hlti, e⟩; rotate_left; subst e; rotate_left; have hil : i < c.length := (by omega); have wi : IntKind.wrap .i64 ((i : Int) + 1) = (i : Int) + 1 := (by rw [IntKind.wrap_i64]; omega); have hsf := (hnum i hi1 hlti).1; have hus := c9w hil; rw [hsf] at hus; have htk := f2x hil; have hrl : i < (a8p c).length := (by rw [b0r]; exact hil); have hra := d1p hrl; have s1 : (i + 1 + (i + 1) / 4 + 192) * 8 <= 140737488355328 := (by omega); have s2 : i <= 4611686018427387903 := (by omega); have hg0 := c6s (N := 64) hil; have hgA : (a8p c)[i] = true -> 0 < i -> u64s ((g0B 64 c).take i) ++ [[.int .u64 (ons.toNat : Int)]] = u64s ((g0B 64 c).take (i + 1)) := (fun h1 h2 => f6b hil ((hg0.1 ⟨hra.1 h1, h2⟩).trans hons)); have hgB : ¬ ((a8p c)[i] = true /\ 0 < i) -> u64s ((g0B 64 c).take i) ++ [[.int .u64 0]] = u64s ((g0B 64 c).take (i + 1)) := (fun h => f6b (w := 0) hil (hg0.2 fun h2 => h ⟨hra.2 h2.1, h2.2⟩)); have hgC : (a8p c)[i] = false -> u64s ((g0B 64 c).take i) ++ [[.int .u64 0]] = u64s ((g0B 64 c).take (i + 1)) := (fun h => hgB fun h2 => by rw [h] at h2; exact absurd h2.1 (by decide)); have hgD : ¬ 0 < i -> u64s ((g0B 64 c).take i) ++ [[.int .u64 0]] = u64s ((g0B 64 c).take (i + 1)) := (fun h => hgB fun h2 => h h2.2); clear hgB hra hg0; by_cases hlk : lkO c[i].op = true; rw [if_pos hlk] at hus; replace hus := hus.symm; rotate_left; rw [if_neg hlk] at hus; rw [hus] at htk; rotate_left)
  | ((with_reducible refine a2c ?_); refine a3f (σ := {y : List (BitVec 64) × Bool // Hin 64 c y.1 /\ (y.2 = false -> y.1 = hdG 64 c)}) (fun y => [(13, .bool y.1.2), (15, .undef)]) [] (fun y => []) [] (fun y => [([97, f], .cells 68 1 (u64s y.1.1))]) (fun y => noH) (fun y => muG c y.1.1 y.1.2) ⟨(g0B 64 c, true), g9j hc, by simp⟩ (gk5S [] rfl hB.c5 hB.l5 ?_ ?_ ?_ ?_ ?_ ?_) ?_; (focus (simp [LPXB, *, SIMB, a0n, a0h, fB, f95, f96, f97, a0k, a0q, a1l, a1x, a2q, a2u, a2p, a2k]; done)); (focus (simp [LPXB, *, SIMB, a0n, a0h, fB, f95, f96, f97, a0k, a0q, a1l, a1x, a2q, a2u, a2p, a2k]; done)); (focus (simp [injB, bk, LPXB]; done)); (focus (simp [LPXB, *, SIMB, bk_n, bk_c, inH, a0n, a0h, fB, f95, f96, f97, a0k, a0q, a1l, a1x, a2q, a2u, a2p, a2k]; done)); (focus (simp [LPXB, *, SIMB, bk_n, bk_c, inH, a0n, a0h, fB, f95, f96, f97, a0k, a0q, a1l, a1x, a2q, a2u, a2p, a2k]; done)); (focus (simp [LPXB, *, SIMB, bk_n, bk_c, inH, a0n, a0h, fB, f95, f96, f97, a0k, a0q, a1l, a1x, a2q, a2u, a2p, a2k]; done)); rintro ⟨⟨g, m⟩, hI, hm⟩; simp only [lpS, LPXB]; (try dsimp only at hI hm); cases m; have hg := hm rfl; subst hg; rotate_left; have hgl := hI.len; rotate_left)
  | ((with_reducible refine a2c ?_); refine a3f (σ := {y : Nat × (List (BitVec 64) × Bool) // y.1 <= ord.length /\ Csw 64 c ord y.1 g y.2.1 y.2.2}) (fun y => [(13, .bool y.1.2.2), (15, .undef)]) [100, 99] (fun y => [(101, .int .i64 (y.1.1 : Int))]) [] (fun y => [([97, f], .cells 68 1 (u64s y.1.2.1))]) (fun y => noH) (fun y => ord.length - y.1.1) ⟨(0, (g, false)), by simp, Csw.init hI⟩ (gk5S [] rfl hB.c5 hB.l5 ?_ ?_ ?_ ?_ ?_ ?_) ?_; (focus (simp [LPXB, *, SIMB, a0n, a0h, fB, f95, f96, f97, a0k, a0q, a1l, a1x, a2q, a2u, a2p, a2k]; done)); (focus (simp [LPXB, *, SIMB, a0n, a0h, fB, f95, f96, f97, a0k, a0q, a1l, a1x, a2q, a2u, a2p, a2k]; done)); (focus (simp [injB, bk, LPXB]; done)); (focus (simp [LPXB, *, SIMB, bk_n, bk_c, inH, a0n, a0h, fB, f95, f96, f97, a0k, a0q, a1l, a1x, a2q, a2u, a2p, a2k]; done)); (focus (simp [LPXB, *, SIMB, bk_n, bk_c, inH, a0n, a0h, fB, f95, f96, f97, a0k, a0q, a1l, a1x, a2q, a2u, a2p, a2k]; done)); (focus (simp [LPXB, *, SIMB, bk_n, bk_c, inH, a0n, a0h, fB, f95, f96, f97, a0k, a0q, a1l, a1x, a2q, a2u, a2p, a2k]; done)); rintro ⟨⟨k, g1, m1⟩, hk, hC⟩; simp only [lpS, LPXB]; (try dsimp only at hk hC); have hI1 := hC.run.run.inn; have hgl1 := hI1.len; rcases a1y hk with hlt | ⟨hlt, e⟩; rotate_left; subst e; have hmu := hC.mu; have hfin : m1 = false -> g1 = hdG 64 c := (fun h => by subst h; exact (hC.fin hc hord hI).1); rotate_left; have wk := wli hlt (by omega); obtain ⟨jb, hj1, hjl, hab, hle2, hC2⟩ := hC.step hc hord hlt; have hane : (blks c)[jb].1 + ((blks c)[jb].2 - (blks c)[jb].1) = (blks c)[jb].2 := (by omega); obtain ⟨⟨G, r⟩, hr⟩ : ∃ s, (rndC c (blks c)[jb].1 g1 ((blks c)[jb].2 - (blks c)[jb].1)) = s := ⟨_, rfl⟩; rw [hr] at hC2; dsimp only at hC2; cases r; rw [Bool.false_or] at hC2; rotate_left; rw [Bool.true_or] at hC2; rotate_left)
  | ((with_reducible refine cgB ?_); refine e0i rfl (f3h (U := .sl [96, f] 1 0 i) (I := .sl [97, f] 1 0 i) hF (BsH.callS hB.toH 2 (by decide) ?_ ?_) ?_ hil hi1) ?_; (focus rfl); (focus (simp [ninL, ninO, a3o, nins, nin, a0d, a0g, a0a, a0c, a0b, a1x, a6f, a6l, inH, HPXB, bRow, *]; done)); (focus (simp [ext, a1u, a1w, a2d]; done)))
  | ((with_reducible refine cgB ?_); refine e0h rfl ?_ (e4b (g := g1) (a := (blks c)[jb].1) hF hu64 (BsH.toG (BsH.callS hB.toH 3 (by decide) ?_ ?_)) ?_ ?_ hgl1 hane hle2) ?_; (focus (simp [HPXB]; done)); (focus rfl); (focus (simp [ninL, ninO, a3o, nins, nin, a0d, a0g, a0a, a0c, a0b, a1x, a6f, a6l, inH, HPXB, bRow, *]; done)); (focus (simp [ext, a1u, a1w, a2d]; done)); (focus (simp [ext, a1u, a1w, a2d]; done)))
  | ((with_reducible refine a1m ?_); refine a2a (⟨i + 1, by omega, by omega⟩) (gk5S [([96, f], some [5, 70]), ([97, f], some [5, 90])] rfl hB.c5 hB.l5 ?_ ?_ ?_ ?_ ?_ ?_) ?_; (focus (simp [LPXB, *, SIMB, a0n, a0h, fB, f95, f96, f97, a0k, a0q, a1l, a1x, a2q, a2u, a2p, a2k]; done)); (focus (simp [LPXB, *, SIMB, a0n, a0h, fB, f95, f96, f97, a0k, a0q, a1l, a1x, a2q, a2u, a2p, a2k]; done)); (focus (simp [injB, bk, LPXB]; done)); (focus (simp [LPXB, *, SIMB, bk_n, bk_c, inH, a0n, a0h, fB, f95, f96, f97, a0k, a0q, a1l, a1x, a2q, a2u, a2p, a2k]; done)); (focus (simp [LPXB, *, SIMB, bk_n, bk_c, inH, a0n, a0h, fB, f95, f96, f97, a0k, a0q, a1l, a1x, a2q, a2u, a2p, a2k]; done)); (focus (simp [LPXB, *, SIMB, bk_n, bk_c, inH, a0n, a0h, fB, f95, f96, f97, a0k, a0q, a1l, a1x, a2q, a2u, a2p, a2k]; done)); (focus (dsimp only; omega)))
  | ((with_reducible refine a1m ?_); refine a2a (⟨j + 1, by omega⟩) (gk5S [] rfl hB.c5 hB.l5 ?_ ?_ ?_ ?_ ?_ ?_) ?_; (focus (simp [LPXB, *, SIMB, a0n, a0h, fB, f95, f96, f97, a0k, a0q, a1l, a1x, a2q, a2u, a2p, a2k, hsn]; done)); (focus (simp [LPXB, *, SIMB, a0n, a0h, fB, f95, f96, f97, a0k, a0q, a1l, a1x, a2q, a2u, a2p, a2k, hsn]; done)); (focus (simp [injB, bk, LPXB]; done)); (focus (simp [LPXB, *, SIMB, bk_n, bk_c, inH, a0n, a0h, fB, f95, f96, f97, a0k, a0q, a1l, a1x, a2q, a2u, a2p, a2k, hsn]; done)); (focus (simp [LPXB, *, SIMB, bk_n, bk_c, inH, a0n, a0h, fB, f95, f96, f97, a0k, a0q, a1l, a1x, a2q, a2u, a2p, a2k, hsn]; done)); (focus (simp [LPXB, *, SIMB, bk_n, bk_c, inH, a0n, a0h, fB, f95, f96, f97, a0k, a0q, a1l, a1x, a2q, a2u, a2p, a2k, hsn]; done)); (focus (dsimp only; omega)))
  | ((with_reducible refine a1m ?_); refine a2a (⟨(k + 1, (G, true)), by omega, hC2⟩) (gk5S [] rfl hB.c5 hB.l5 ?_ ?_ ?_ ?_ ?_ ?_) ?_; (focus (simp [LPXB, *, SIMB, a0n, a0h, fB, f95, f96, f97, a0k, a0q, a1l, a1x, a2q, a2u, a2p, a2k]; done)); (focus (simp [LPXB, *, SIMB, a0n, a0h, fB, f95, f96, f97, a0k, a0q, a1l, a1x, a2q, a2u, a2p, a2k]; done)); (focus (simp [injB, bk, LPXB]; done)); (focus (simp [LPXB, *, SIMB, bk_n, bk_c, inH, a0n, a0h, fB, f95, f96, f97, a0k, a0q, a1l, a1x, a2q, a2u, a2p, a2k]; done)); (focus (simp [LPXB, *, SIMB, bk_n, bk_c, inH, a0n, a0h, fB, f95, f96, f97, a0k, a0q, a1l, a1x, a2q, a2u, a2p, a2k]; done)); (focus (simp [LPXB, *, SIMB, bk_n, bk_c, inH, a0n, a0h, fB, f95, f96, f97, a0k, a0q, a1l, a1x, a2q, a2u, a2p, a2k]; done)); (focus (dsimp only; omega)))
  | ((with_reducible refine a1m ?_); refine a2a (⟨(k + 1, (G, m1)), by omega, hC2⟩) (gk5S [] rfl hB.c5 hB.l5 ?_ ?_ ?_ ?_ ?_ ?_) ?_; (focus (simp [LPXB, *, SIMB, a0n, a0h, fB, f95, f96, f97, a0k, a0q, a1l, a1x, a2q, a2u, a2p, a2k]; done)); (focus (simp [LPXB, *, SIMB, a0n, a0h, fB, f95, f96, f97, a0k, a0q, a1l, a1x, a2q, a2u, a2p, a2k]; done)); (focus (simp [injB, bk, LPXB]; done)); (focus (simp [LPXB, *, SIMB, bk_n, bk_c, inH, a0n, a0h, fB, f95, f96, f97, a0k, a0q, a1l, a1x, a2q, a2u, a2p, a2k]; done)); (focus (simp [LPXB, *, SIMB, bk_n, bk_c, inH, a0n, a0h, fB, f95, f96, f97, a0k, a0q, a1l, a1x, a2q, a2u, a2p, a2k]; done)); (focus (simp [LPXB, *, SIMB, bk_n, bk_c, inH, a0n, a0h, fB, f95, f96, f97, a0k, a0q, a1l, a1x, a2q, a2u, a2p, a2k]; done)); (focus (dsimp only; omega)))
  | ((with_reducible refine a1m ?_); refine a2a (⟨(g1, m1), hI1, hfin⟩) (gk5S [] rfl hB.c5 hB.l5 ?_ ?_ ?_ ?_ ?_ ?_) ?_; (focus (simp [LPXB, *, SIMB, a0n, a0h, fB, f95, f96, f97, a0k, a0q, a1l, a1x, a2q, a2u, a2p, a2k]; done)); (focus (simp [LPXB, *, SIMB, a0n, a0h, fB, f95, f96, f97, a0k, a0q, a1l, a1x, a2q, a2u, a2p, a2k]; done)); (focus (simp [injB, bk, LPXB]; done)); (focus (simp [LPXB, *, SIMB, bk_n, bk_c, inH, a0n, a0h, fB, f95, f96, f97, a0k, a0q, a1l, a1x, a2q, a2u, a2p, a2k]; done)); (focus (simp [LPXB, *, SIMB, bk_n, bk_c, inH, a0n, a0h, fB, f95, f96, f97, a0k, a0q, a1l, a1x, a2q, a2u, a2p, a2k]; done)); (focus (simp [LPXB, *, SIMB, bk_n, bk_c, inH, a0n, a0h, fB, f95, f96, f97, a0k, a0q, a1l, a1x, a2q, a2u, a2p, a2k]; done)); (focus (dsimp only; omega)))
  | with_reducible first | refine a3m (id := 1) 9 a1v (by kernel_rfl) fun K hK => ?_ | refine stp ?_ | refine stpK ?_; intro K hK | refine stpC ?_; intro T E hT hE | refine stp2 ?_ ?_ <;> intro h | refine a0x rfl ?_ | refine a2n (d0k hc) (by simp [nls, nl, *, NLXB]) ?_ | refine hpc (d0k hc) (by simp [nls, nl, *, NLXB]) ?_ | refine a2n (b4n hc) (by simp [nls, nl, *, NLXB]) ?_ | refine hpc (b4n hc) (by simp [nls, nl, *, NLXB]) ?_ | refine a2n tOrd (by simp [nls, nl, *, NLXB]) ?_ | refine hpc tOrd (by simp [nls, nl, *, NLXB]) ?_ | refine a2n (b7t _) (by simp [nls, nl, *, NLXB]) ?_ | refine hpc (b7t _) (by simp [nls, nl, *, NLXB]) ?_ | refine a1a rfl (Nat.le_of_ble_eq_true rfl) a0z ?_ | refine a1a rfl (Nat.le_of_ble_eq_true rfl) (a0y (by simp [HPXB, fB, f95, f96, f97, ext, upd, *])) ?_ | refine a2i (by decide) (by kernel_rfl) ?_ | refine a1j (by decide) ?_ | refine Kont.go hK ?_; clear hK K | refine KT.go hT ?_; clear hT hE T E | refine KT.go hE ?_; clear hT hE T E
  | simp [*, -List.all_flatten, -List.all_eq_true, DEFB, LENB, asR, a1u, Ins.row, a2g, a1l, b5l, bRow, a2p, g1u, a0k, a8r, a6i, rmvs, rmv, a5s, FV.cellV, a3r, d5g, a2r, a4u, FnD.row, a2q, a2u, b0r]
theorem BsS.of {L : List (FM.Loc × FO)} (hl : hdN 7 (L.map Prod.fst) = true) (ho : ninL (inH (HP L noH noH)) L) : BsS (updL L noH) := by
 have hout : ∀ k r, k ≠ 7 -> updL L noH (k :: r) = none := fun k r hk => by
  rw [a6b fun p hp e => ?_]
  . rfl
  . obtain ⟨q, hq⟩ := a8f hl p.1 (List.mem_map.2 ⟨p, hp, rfl⟩)
    rw [e] at hq
    simp only [List.cons.injEq] at hq
    exact hk hq.1
 refine ⟨fun k r hk => hout k r (by omega), fun k r h1 h2 => hout k r (by omega), fun l o h => ?_⟩
 rcases a6s h with h | ⟨_, h⟩
 . exact a4g (fun q hq => hq) (a9i ho _ h)
 . cases h
theorem h1i {L : List (FM.Loc × FO)} {B : Heap} {p : Pg} {y : Pts} {b : Bool} : HP (([88], .cells 4 1 [[.bool b]]) :: L) B (MN p y) = HP L B (MF p y b) := by
 rw [d6g (show MN p y [88] = none from rfl)]
 congr 1
 funext k
 unfold upd
 by_cases e : k = [88]
 . subst e; rfl
 . rw [if_neg e, b7r e]
   unfold MF
   split <;> first | rfl | exact absurd rfl e
structure PgB (p : Pg) : Prop where
 f : p.funcs.length <= 2000000
 g : p.globals.length <= 2000000
 l : p.layouts.length <= 2000000
 ll : ∀ x ∈ p.layouts, x.length <= 2000000
 c : ∀ x ∈ p.funcs, x.code.length <= 2000000
theorem _root_.Go.Gv.Ld.zero {p : Pg} (hp : VOk p) (x : Pts) : Gv.Ld p x 0 0 0 (a5d p) := by
 refine ⟨(a6h hp).shp, fun t => ?_⟩
 have e : Gv.ldd 0 0 0 t = false := by cases t <;> simp [Gv.ldd]
 rw [e, if_neg (by simp)]
 cases t with
 | r g a =>
   simp only [Gv.getS, Gv.rg, a5d, List.getD_eq_getElem?_getD, List.getElem?_map, Int.toNat_natCast]
   cases p.funcs[g]? with
   | none => simp
   | some f => by_cases h : a < f.regs.toNat <;> simp [List.getElem?_replicate, h]
 | c o =>
   simp only [Gv.getS, Gv.cl, a5d, List.getD_eq_getElem?_getD, List.getElem?_replicate, Int.toNat_natCast]
   split <;> rfl
theorem g2p (p : Pg) (y : Pts) : MN p y [88] = none := rfl
theorem f3q {Y : Pts} {f r : Nat} (hf : f < Y.regs.length) (hr : r < Y.regs[f].length) : (SL.r f r).ok Y := ⟨hf, by rw [List.getD_eq_getElem?_getD, List.getElem?_eq_getElem hf]; exact hr⟩
section
variable {P : Program} {c : Cfg} {ops : Array Oper} {Φ : Fs -> Prop} {s : Fs}
end
theorem TR.skip {m : Bool} {C C' : Pts -> Prop} {Y Z : Pts} {g h : Bool} (H : TR m C C Y g Z h) (hs : ∀ z, C' z -> C z) (hn : Z = Y -> C Y -> C' Y) : TR m C' C' Y g Z h :=
 ⟨H.pre, fun z hz hy => H.least z (hs z hz) hy, fun e => by obtain ⟨h1, h2, h3⟩ := H.good e; exact ⟨h1, h2, hn h2 h3⟩, fun e => ⟨(H.snd e).1, fun hg hc => (H.snd e).2 hg (hs _ hc)⟩, H.prog⟩
theorem g8z (t : SL) (ss : List Int) (z : Pts) : inS t (ss.take 0) z := fun o ho => by simp at ho
theorem e6j {t : SL} {ss : List Int} {i : Nat} (h : i < ss.length) (z : Pts) : inS t (ss.take (i + 1)) z ↔ inS t (ss.take i) z /\ inS t [ss[i]] z := by
 rw [List.take_add_one, List.getElem?_eq_getElem h]
 constructor
 . intro H; exact ⟨fun o ho => H o (List.mem_append_left _ ho), fun o ho => H o (List.mem_append_right _ (by simpa using ho))⟩
 . rintro ⟨h1, h2⟩ o ho
   rcases List.mem_append.1 ho with e | e
   . exact h1 o e
   . exact h2 o (by simpa using e)
theorem g8y {t : SL} {ss ks : List Int} (hp : ss.Perm ks) (z : Pts) : inS t ks z ↔ inS t (ss.take ss.length) z := by
 rw [List.take_length]
 exact ⟨fun h o ho => h o (hp.mem_iff.1 ho), fun h o ho => h o (hp.mem_iff.2 ho)⟩
theorem g7g {t : SL} {ss : List Int} {i : Nat} {Y Z : Pts} {g h : Bool} (hi : i < ss.length) (H : TR false (inS t (ss.take i)) (inS t (ss.take i)) Y g Z h) (hin : ss[i] ∈ getS Z t) : TR false (inS t (ss.take (i + 1))) (inS t (ss.take (i + 1))) Y g Z h :=
 TR.skip H (fun z hz => ((e6j hi z).1 hz).1) fun e hc => (e6j hi _).2 ⟨hc, fun o ho => by rw [List.mem_singleton] at ho; subst ho; rw [<- e]; exact hin⟩
theorem f3f {t : SL} {ss : List Int} {i : Nat} {Y Z : Pts} {g h : Bool} (hi : i < ss.length) (ht : t.ok Z) (H : TR false (inS t (ss.take i)) (inS t (ss.take i)) Y g Z h) : TR false (inS t (ss.take (i + 1))) (inS t (ss.take (i + 1))) Y g (setS Z t (getS Z t ++ [ss[i]])) true :=
 (H.comp (TR.lay (b := h) ht ss[i])).mono (fun hc => hc.2.elim) fun z _ hz => (e6j hi z).1 hz
theorem e5j {n : Nat} {l ks ss : List Int} {i : Nat} (hi : i < ss.length) (hp : ss.Perm ks) (hk : okA n ks) (hl : okA n l) (hn : ss[i] ∉ l) : okA n (l ++ [ss[i]]) := by
 refine ⟨List.nodup_append.2 ⟨hl.1, by simp, fun a ha b hb e => ?_⟩, fun x hx => ?_⟩
 . rw [List.mem_singleton] at hb; subst hb; subst e; exact hn ha
 . rcases List.mem_append.1 hx with h | h
   . exact hl.2 x h
   . rw [List.mem_singleton] at h; subst h; exact hk.2 _ (hp.mem_iff.1 (List.getElem_mem hi))
theorem e6k {B : Heap} {p : Pg} {y : Pts} {b : Bool} (h : B [88] = none) : HSub (HP [] B (MN p y)) (HP [] B (MF p y b)) := fun l o ho => by
 by_cases e : l = [88]
 . subst e
   have : HP [] B (MN p y) [88] = B [88] := rfl
   rw [this, h] at ho; cases ho
 . have e1 : MN p y l = MF p y b l := by
    rw [b7r e]
    unfold MF
    split <;> first | rfl | exact absurd rfl e
   unfold HP at ho ⊢
   rw [a4v] at ho ⊢
   rw [<- e1]; exact ho
def OutA (p : Pg) (B : Heap) (Y : Pts) (r : FV) (H' : Heap) : Prop := ∃ Y' b, r = .bool b /\ H' = HP [] B (MN p Y') /\ Shp p Y' /\ TR false (a5w p) (a5w p) Y false Y' b
def OutU (p : Pg) (B : Heap) (r : FV) (H' : Heap) : Prop := r = .tup [] /\ ∃ Y', H' = HP [] B (MN p Y') /\ Shp p Y' /\ Least p (a8o Y')
section
variable {P : Program} {c : Cfg} {ops : Array Oper} {o o2 o3 : Oper} {post : List Oper} {Φ : Fs -> Prop} {s : Fs}
theorem f2s (h : MG P c ops o (o2 :: o3 :: post) Φ s (a3q ops o s)) : WL P c ops (o :: o2 :: o3 :: post) Φ s := a7f h
end
theorem d0l {H : Heap} {l nm : FM.Loc} (h0 : H nm = none) : FC Tryz.prog Gl 108 [.mp l] H (.clo 151 [] [.ptr nm 1 0 0]) (upd H nm (.cells 141 1 [[.mp l]])) := by
 have e0 : (fun d ix => if d = 1 then nm else 0 :: d :: ix : Nat -> List Nat -> FM.Loc) 1 [] = nm := rfl
 refine b4f (res := [.tmp 2]) 3 4 [] (fun d ix => if d = 1 then nm else 0 :: d :: ix) (fn := Tryz.f108) (by kernel_rfl) (by rfl) (by rfl) (by rfl) (by simp) (by decide) ?_
 repeat' first
  | with_reducible first | refine stp ?_ | refine stpK ?_; intro K hK | refine stpC ?_; intro T E hT hE | refine stp2 ?_ ?_ <;> intro h | refine a0x rfl ?_ | refine a1a rfl (Nat.le_of_ble_eq_true rfl) a0z ?_ | refine a1a rfl (Nat.le_of_ble_eq_true rfl) (a0y (by simp [HPXB, ext, upd, *])) ?_ | refine a2i (by decide) (by kernel_rfl) ?_ | refine a1j (by decide) ?_ | refine Kont.go hK ?_; clear hK K | refine KT.go hT ?_; clear hT hE T E | refine KT.go hE ?_; clear hT hE T E
  | simp [*, -List.all_flatten, -List.all_eq_true, DEFB, KFin]
 all_goals (funext k; simp only [upd]; split <;> rfl)
theorem g7i {p : Pg} (hp : VOk p) {B : Heap} {Y : Pts} {g : Bool} {t : SL} {lf : FM.Loc} {ks : List Int} (hy : Shp p Y) (ht : t.ok Y) (hB : BsM p 1 B) (hks : okA (a0t p).length ks) (hl : HP [] B (MF p Y g) lf = some (mapO ks)) : FCr Tryz.prog Gl 106 [.mp t.loc, .mp lf, .ptr [88] 1 0 0] (HP [] B (MF p Y g)) (OutT p false B (inS t ks) Y g) := by
 have hsv := a3v hp
 have fB : ∀ r, B (1 :: r) = none := fun r => (hB Y g Y g hy hy).fb 1 r (by decide)
 have hkl : ks.length <= 1000000000 := by have := b1u hks; omega
 have hkb : ∀ x ∈ ks, 0 <= x /\ x < 1000000000 := fun x hx => by have := hks.2 x hx; omega
 have hlf : ∀ (L : List (FM.Loc × FO)) (b' : Bool), hdN 1 (L.map Prod.fst) = true -> HP L B (MF p Y b') lf = some (mapO ks) := fun L b' hL => g2v hB (by decide) hy hl hL
 have hput : ∀ (Z : Pts) (h : Bool) (o : Int), t.ok Z -> o ∉ getS Z t -> b1o Tryz.prog (HP [] B (MF p Z h)) 141 (.mp t.loc) (.int .i64 o) (.agg []) = some ([(t.loc, mapO (getS Z t ++ [o]))], .undef) := fun Z h o hZ ho => e5c (a6o hZ) ho
 have hi1 : ∀ (L : List (FM.Loc × FO)) (Z : Pts) (b' : Bool), t.ok Z -> inH (HP L B (MF p Z b')) t.loc := fun L Z b' hZ => c6n hZ
 have hi2 : ∀ (L : List (FM.Loc × FO)) (Z : Pts) (b' : Bool), inH (HP L B (MF p Z b')) [88] := fun L Z b' => a7u
 refine a4b (res := []) 7 23 [11, 10, 9] (fun d ix => 1 :: d :: ix) (fn := Tryz.f106) (by kernel_rfl) (by rfl) (by rfl) (by rfl) (by simp) (by decide) ?_
 repeat' first
  | ((with_reducible refine a1z (id := 0) fun K hK => ?_); refine a1i 2 ?_)
  | ((with_reducible refine a2c ?_); refine a3f (σ := {x : Nat × (Pts × Bool) // x.1 <= ss.length /\ Shp p x.2.1 /\ TR false (inS t (ss.take x.1)) (inS t (ss.take x.1)) Y g x.2.1 x.2.2}) (fun y => [(1, .undef), (6, .undef)]) [10, 9] (fun y => [(11, .int .i64 (y.1.1 : Int))]) [[1, 95]] (fun y => []) (fun y => MF p y.1.2.1 y.1.2.2) (fun y => ss.length - y.1.1) ⟨(0, (Y, g)), Nat.zero_le _, hy, TR.id (g8z _ _ _)⟩ (gk3i (j := 1) [] (hB _ _ _ _ hy hy) ?_ ?_ ?_ ?_ ?_ ?_ ?_) ?_; (iterate 7 (focus (first | rfl | (simp [LPXB, *, SIMB, hdN, injB, fB, a2g, a1t, a2f, hdN, a1h, a0v, a2h, a0e, a5t, a2r]; done)))); rintro ⟨⟨i, ⟨Z, h⟩⟩, hi, hZ, hT⟩; simp only [lpS, LPXB]; (try dsimp only at hi hZ hT); have htZ := hT.pre.ok ht; rcases a1y hi with hlt | ⟨hlt, he⟩; rotate_left; subst i; rotate_left; have wi := wli hlt (by omega); by_cases hin : (ss[i]'hlt) ∈ getS Z t; rotate_left; have hZ2 := hZ.set htZ (e5j hlt hpm hks (hZ.gets t) hin); have htZ2 := f3u (t := t) (getS Z t ++ [ss[i]'hlt]) htZ; rotate_right)
  | ((with_reducible refine a1m ?_); refine a2a (⟨(i + 1, (Z, h)), by omega, hZ, g7g hlt hT hin⟩) (gk3i (j := 1) [] (hB _ _ _ _ hy hZ) ?_ ?_ ?_ ?_ ?_ ?_ ?_) ?_; (iterate 7 (focus (first | rfl | (simp [LPXB, *, SIMB, hdN, injB, fB, a2g, a1t, a2f, hdN, a1h, a0v, a2h, a0e, a5t, a2r]; done)))); (focus (dsimp only; omega)))
  | ((with_reducible refine a1m ?_); refine a2a (⟨(i + 1, (setS Z t (getS Z t ++ [ss[i]'hlt]), true)), by omega, hZ2, f3f hlt htZ hT⟩) (gk3i (j := 1) [] (hB _ _ _ _ hy hZ2) ?_ ?_ ?_ ?_ ?_ ?_ ?_) ?_; (iterate 7 (focus (first | rfl | (simp [LPXB, *, SIMB, hdN, injB, fB, a2g, a1t, a2f, hdN, a1h, a0v, a2h, a0e, a5t, a2r]; done)))); (focus (dsimp only; omega)))
  | ((with_reducible refine cgH ?_); refine a5q (d0l (nm := [1, 95]) ?_) ?_; (focus (simp [a2g, a2f, a2d, fB]; done)))
  | ((with_reducible refine mdH ?_); refine d2o (by kernel_rfl) (fun d hd => ?_) (d0n (l := [1, 95]) (k := lf) (ks := ks) (T := 141) ?_ ?_ hks.1 hkb hkl) ?_; (focus (cases hd; exact Nat.le_of_ble_eq_true rfl)); (focus (simp [a2g, a2f, a1w]; done)); (focus (exact hlf _ _ (by rfl))); (rintro r' H' ⟨rfl, ss, hpm, rfl⟩); have hsl : ss.length <= 1000000000 := (by rw [hpm.length_eq]; exact hkl))
  | ((with_reducible refine cgH ?_); refine a7w rfl (d0d _ hB (by decide) hZ htZ ?_ ?_) ?_; (focus rfl); (focus (first | rfl | (simp [ninL, ninO, a3o, nins, nin, a0d, a0g, a0a, a1k, a0c, a0b, a2j, mapO, a2m, a1h, a0v, hdN, *]; done))))
  | ((with_reducible refine lfH ?_); refine a7g (j := 1) (hB _ _ _ _ hy hZ) rfl ⟨rfl, Z, h, rfl, hZ, hT.congr (g8y hpm)⟩ trivial)
  | with_reducible first | refine f2s ?_ | refine b3t ?_ | refine stp ?_ | refine stpK ?_; intro K hK | refine stpC ?_; intro T E hT hE | refine stp2 ?_ ?_ <;> intro h | refine a0x rfl ?_ | refine a1a rfl (Nat.le_of_ble_eq_true rfl) a0z ?_ | refine a1a rfl (Nat.le_of_ble_eq_true rfl) (a0y (by simp [HPXB, a2f, fB, ext, upd, *])) ?_ | refine a2i (by decide) (by kernel_rfl) ?_ | refine a1j (by decide) ?_ | refine Kont.go hK ?_; clear hK K | refine KT.go hT ?_; clear hT hE T E | refine KT.go hE ?_; clear hT hE T E
  | simp [*, -List.all_flatten, -List.all_eq_true, DEFM, fB, a2g, a1t, a2f, hdN, a1h, a0v, a2h, a0e, a5t, a2r, e0x, g2u, e9y, hput, a3u, MG_t, MG_f]
theorem g1l {p : Pg} (hp : VOk p) : CT p false 106 := fun B y b t lf ks hy ht hB hk hl => g7i hp hy ht hB hk hl
theorem g7o {p : Pg} (hp : VOk p) {B : Heap} {Y : Pts} (hy : Shp p Y) (hBM : BsM p 5 B) (hBN : BsN p 5 B) (h88 : B [88] = none) : FCr Tryz.prog Gl 105 [.ptr [81] 8 0 0] (HP [] B (MN p Y)) (OutA p B Y) := by
 have hsv := a3v hp
 have fB : ∀ r, B (5 :: r) = none := fun r => (hBN _ _ hy hy).fb 5 r (by decide)
 have h81 : ∀ (L : List (FM.Loc × FO)) (Z : Pts) (b' : Bool), inH (HP L B (MF p Z b')) [81] := fun L Z b' => a3s a3y
 have h81n : ∀ (L : List (FM.Loc × FO)) (Z : Pts), inH (HP L B (MN p Z)) [81] := fun L Z => a3s b3b
 have h88i : ∀ (L : List (FM.Loc × FO)) (Z : Pts) (b' : Bool), inH (HP L B (MF p Z b')) [88] := fun L Z b' => a7u
 refine a4b (res := [.tmp 2]) 4 8 [] (fun d ix => 5 :: d :: ix) (fn := Tryz.f105) (by kernel_rfl) (by rfl) (by rfl) (by rfl) (by simp) (by decide) ?_
 repeat' first
  | ((with_reducible refine a1z (id := 2) fun K hK => ?_); refine f2t (gk5i (vs1 := [.ptr [81] 8 0 0, .undef, .bool false, .ptr [88] 1 0 0]) (tm1 := []) (ix1 := []) (L1 := [([88], .cells 4 1 [[.bool false]])]) [([88], some [5, 3])] h1i (by rfl) ?_ ?_ (hBN _ _ hy hy).clo (hBN _ _ hy hy).lent ?_ ?_ ?_) ?_; (focus (intro n hn; simp at hn; (try dsimp only); rcases hn with rfl | rfl <;> simp [a0h, a7p, g2p, fB, h88])); (focus (intro q hq; simp at hq; rcases hq with rfl; simp [a0h, a7p, fB])); (focus (simp [*, SIMB, fB, a2g, a1t, a2f, hdN, a1h, a0v, a2h, a7p, a1u, a2h, h81, h88i]; done)); (focus (first | trivial | (simp [simT]; done))); (focus (simp [*, SIMB, fB, a2g, a1t, a2f, hdN, a1h, a0v, a2h, a7p, a1u, a2h, h81, h88i]; done)); refine a1i 2 ?_)
  | ((with_reducible refine mdH ?_); refine a3n (L := []) (by kernel_rfl) (fun d hd => ?_) rfl (c1d hp (g1l hp) (by kernel_rfl) hy (hBM.call (b := false) 4 (by decide) hy (by rfl) trivial)) ?_; (focus (cases hd; exact Nat.le_of_ble_eq_true rfl)); (rintro r' H' ⟨rfl, Z2, g2, rfl, hZ2, hT⟩))
  | ((with_reducible refine lfH ?_); exact ⟨HP [] B (MN p Z2), ⟨Z2, g2, rfl, rfl, hZ2, hT⟩, e6k h88, (hBN _ _ hy hZ2).lent, trivial, (hBN _ _ hy hZ2).clo⟩)
  | with_reducible first | refine a4y ?_ | refine a7f ?_ | refine stp ?_ | refine stpK ?_; intro K hK | refine stpC ?_; intro T E hT hE | refine stp2 ?_ ?_ <;> intro h | refine a0x rfl ?_ | refine a1a rfl (Nat.le_of_ble_eq_true rfl) a0z ?_ | refine a1a rfl (Nat.le_of_ble_eq_true rfl) (a0y (by simp [HPXB, a7p, a2f, fB, ext, upd, *])) ?_ | refine a2i (by decide) (by kernel_rfl) ?_ | refine a1j (by decide) ?_ | refine Kont.go hK ?_; clear hK K | refine KT.go hT ?_; clear hT hE T E | refine KT.go hE ?_; clear hT hE T E
  | simp [*, -List.all_flatten, -List.all_eq_true, DEFM, fB, a2g, a1t, a2f, hdN, a1h, a0v, a2h, a7p, a1u, a2h, h81, h88i, e0x, a3u, MG_t, MG_f]
theorem an1M {p : Pg} (hp : VOk p) {L : List (FM.Loc × FO)} {B : Heap} {Y : Pts} {j : Nat} (hj : 5 < j) (hy : Shp p Y) (hBM : BsM p j B) (hBN : BsN p j B) (h88 : B [88] = none) (h88L : ∀ q ∈ L, q.1 ≠ [88]) (hL : hdN j (L.map Prod.fst) = true) (hn : ninL (inH (HP L B (MN p Y))) L) (hn' : ninL (inH (HP L B (MF p Y false))) L) :
 FCr Tryz.prog Gl 105 [.ptr [81] 8 0 0] (HP [] (updL L B) (MN p Y)) (OutA p (updL L B) Y) := g7o hp hy (hBM.call 5 hj hy hL hn') (hBN.call 5 hj hy hL hn) (by rw [a6b h88L]; exact h88)
theorem e3y {p : Pg} (hp : VOk p) {B : Heap} {Y : Pts} (hc : Crd p Y) (hBM : BsM p 6 B) (hBN : BsN p 6 B) (h88 : B [88] = none) : FCr Tryz.prog Gl 104 [.ptr [81] 8 0 0, .clo 105 [] []] (HP [] B (MN p Y)) (OutU p B) := by
 have hy := hc.shp
 have fB : ∀ r, B (6 :: r) = none := fun r => (hBN _ _ hy hy).fb 6 r (by decide)
 have h81 : ∀ (L : List (FM.Loc × FO)) (Z : Pts), inH (HP L B (MN p Z)) [81] := fun L Z => a3s b3b
 refine a4b (res := []) 4 7 [] (fun d ix => 6 :: d :: ix) (fn := Tryz.f104) (by kernel_rfl) (by rfl) (by rfl) (by rfl) (by simp) (by decide) ?_
 repeat' first
  | ((with_reducible refine a1z (id := 0) fun K hK => ?_); refine a1i 2 ?_)
  | ((with_reducible refine a2c ?_); refine a3f (σ := {x : Pts // Crd p x}) (fun y => []) [] (fun y => []) [] (fun y => []) (fun y => MN p y.1) (fun y => muR p y.1) ⟨Y, hc⟩ (gk3i (j := 6) [] (hBN _ _ hy hy) ?_ ?_ ?_ ?_ ?_ ?_ ?_) ?_; (iterate 7 (focus (first | rfl | (simp [LPXB, *, SIMB, hdN, injB, fB, a2g, a1t, a2f, hdN, a1h, a0v, a2h, a7p, a1u, a2h, h81]; done)))); rintro ⟨Z, hZc⟩; simp only [lpS, LPXB]; (try dsimp only at hZc); have hZ := hZc.shp)
  | ((with_reducible refine mdH ?_); refine a3n (L := []) (by kernel_rfl) (fun d hd => ?_) rfl (an1M hp (by decide) hZ hBM hBN h88 (fun _ h => by cases h) (by rfl) trivial trivial) ?_; (focus (cases hd; exact Nat.le_of_ble_eq_true rfl)); (rintro r' H' ⟨Z2, g2, rfl, rfl, hZ2, hT⟩); cases g2)
  | ((with_reducible refine a1m ?_); refine a2a (⟨Z2, hZc.step hZ2 hT⟩) (gk3i (j := 6) [] (hBN _ _ hy hZ2) ?_ ?_ ?_ ?_ ?_ ?_ ?_) ?_; (iterate 7 (focus (first | rfl | (simp [LPXB, *, SIMB, hdN, injB, fB, a2g, a1t, a2f, hdN, a1h, a0v, a2h, a7p, a1u, a2h, h81]; done)))); (focus (dsimp only; exact Crd.mu hp hZ2 hT)))
  | ((with_reducible refine lfH ?_); refine a7g (j := 6) (hBN _ _ hy hZ2) rfl ⟨rfl, Z2, rfl, hZ2, ?_⟩ trivial; obtain ⟨he, hl⟩ := hZc.fin hp hT; rw [he]; exact hl)
  | with_reducible first | refine a4y ?_ | refine a7f ?_ | refine stp ?_ | refine stpK ?_; intro K hK | refine stpC ?_; intro T E hT hE | refine stp2 ?_ ?_ <;> intro h | refine a0x rfl ?_ | refine a1a rfl (Nat.le_of_ble_eq_true rfl) a0z ?_ | refine a1a rfl (Nat.le_of_ble_eq_true rfl) (a0y (by simp [HPXB, a7p, fB, ext, upd, *])) ?_ | refine a2i (by decide) (by kernel_rfl) ?_ | refine a1j (by decide) ?_ | refine Kont.go hK ?_; clear hK K | refine KT.go hT ?_; clear hT hE T E | refine KT.go hE ?_; clear hT hE T E
  | simp [*, -List.all_flatten, -List.all_eq_true, DEFM, fB, a2g, a1t, a2f, hdN, a1h, a0v, a2h, a7p, a1u, a2h, h81, a3u, MG_t, MG_f]
end Go.Je
namespace Go.Je
open Go Go.FM Go.Gv Go.Proofs
set_option maxRecDepth 100000
set_option maxHeartbeats 40000000
open Classical in
noncomputable def lfpP (p : Pg) : Pts := if h : a3g p = true /\ ∃ x, Least p x then h.2.choose else ⟨[], [], []⟩
theorem e1s {p : Pg} {x : Pts} (hv : a3g p = true) (h : Least p x) : lfpP p = x := by
 have hh : a3g p = true /\ ∃ x, Least p x := ⟨hv, x, h⟩
 unfold lfpP
 rw [dif_pos hh]
 exact hh.2.choose_spec.unique h
theorem f5g {p : Pg} (hv : a3g p = false) : lfpP p = ⟨[], [], []⟩ := by
 unfold lfpP
 rw [dif_neg fun h => by rw [hv] at h; cases h.1]
theorem crd0 {p : Pg} (hp : VOk p) : Crd p (a5d p) := ⟨(a6h hp).shp, fun z _ e => ⟨e, fun t o ho => by
 have h := (Gv.Ld.zero hp (a5d p)).at' t
 rw [h] at ho
 cases t <;> simp [ldd] at ho⟩⟩
theorem f3c {p : Pg} (hp : VOk p) {L : List (FM.Loc × FO)} (hL : hdN 7 (L.map Prod.fst) = true) (hn : ninL (inH (HP L noH (MN p (a5d p)))) L) (hn' : ninL (inH (HP L noH (MF p (a5d p) false))) L) :
 FCr Tryz.prog Gl 104 [.ptr [81] 8 0 0, .clo 105 [] []] (HP [] (updL L noH) (MN p (a5d p))) (OutU p (updL L noH)) := by
 refine e3y hp (crd0 hp) ((bsM0 p 7 (by decide)).call (b := false) 6 (by decide) (a6h hp).shp hL hn') ((bsN0 p 7 (by decide)).call 6 (by decide) (a6h hp).shp hL hn) ?_
 rw [a6b fun q hq e => ?_]
 . rfl
 . obtain ⟨r, hr⟩ := a8f hL q.1 (List.mem_map_of_mem hq)
   rw [e] at hr; simp at hr
theorem h1k {L : List (FM.Loc × FO)} {B : Heap} {p : Pg} {y : Pts} {f i : Nat} (h : f < y.regs.length) (h' : i < y.regs[f].length) : HP L B (MN p y) [85, f, i] = some (mapO y.regs[f][i]) := by
 have := e3j (L := L) (B := B) (p := p) (y := y) (t := .r f i) (f3q h h')
 rw [show getS y (.r f i) = y.regs[f][i] from d1k h h'] at this
 exact this
theorem h1j {L : List (FM.Loc × FO)} {B : Heap} {p : Pg} {y : Pts} {o : Nat} (h : o < y.cells.length) : HP L B (MN p y) [86, o] = some (mapO y.cells[o]) := by
 have := e3j (L := L) (B := B) (p := p) (y := y) (t := .c o) h
 rw [show getS y (.c o) = y.cells[o] from e8r h] at this
 exact this
theorem c6f (R : List (List Int)) {i : Nat} (h : i < R.length) : lays ((R.map Gv.srt).take (i + 1)) = lays ((R.map Gv.srt).take i) ++ [[.list 1 (ints (Gv.srt R[i]))]] := by
 have := d2x (R.map Gv.srt) (i := i) (by simpa using h)
 simpa using this
theorem e5z (R : List (List (List Int))) {i : Nat} (h : i < R.length) : lls ((R.map (·.map Gv.srt)).take (i + 1)) = lls ((R.map (·.map Gv.srt)).take i) ++ [[.list 1 (lays (R[i].map Gv.srt))]] := by
 rw [d0a (R := R.map (·.map Gv.srt)) (i := i) (by simpa using h), b8h]
 simp [d2s, a9v]
theorem c8m {p : Pg} (hb : PgB p) (hv : a3g p = false) : PC Tryz.prog Gl 58 [.agg [.list 4 (fns p.funcs), .list 2 (gbs p.globals), .list 1 (lays p.layouts), .int .i64 p.main]] (.agg [.nils, .nils, .nils]) := by
 have hval : PC Tryz.prog Gl 39 [.agg [.list 4 (fns p.funcs), .list 2 (gbs p.globals), .list 1 (lays p.layouts), .int .i64 p.main]] (.bool (a3g p)) := by rw [<- b9a]; exact c19 p hb.f hb.g hb.l hb.ll hb.c
 refine a6n (res := [.cell 2 49]) 12 73 [30, 29, 28, 36, 35, 34, 59, 58, 57] (fun d ix => 7 :: d :: ix) (fn := Tryz.f58) (by kernel_rfl) (by rfl) (by rfl) (by rfl) (by simp) (by decide) ?_
 repeat' first
  | with_reducible first | refine stp ?_ | refine stpK ?_; intro K hK | refine stpC ?_; intro T E hT hE | refine stp2 ?_ ?_ <;> intro h | refine a0x rfl ?_ | refine a2n hval (by simp [nls, nl, *, NLXB]) ?_ | refine hpc hval (by simp [nls, nl, *, NLXB]) ?_ | refine a1a rfl (Nat.le_of_ble_eq_true rfl) a0z ?_ | refine a1a rfl (Nat.le_of_ble_eq_true rfl) (a0y (by simp [HPXB, a7p, ext, upd, *])) ?_ | refine a2i (by decide) (by kernel_rfl) ?_ | refine a1j (by decide) ?_ | refine Kont.go hK ?_; clear hK K | refine KT.go hT ?_; clear hT hE T E | refine KT.go hE ?_; clear hT hE T E
  | simp [*, -List.all_flatten, -List.all_eq_true, DEFM, asR, a1u]
 exact ⟨_, _, ⟨rfl, rfl⟩, .inl rfl, _, _, rfl, .inl rfl, _, rfl, .inl rfl⟩
end Go.Je
namespace Go.Je
open Go Go.FM Go.Gv Go.Proofs
set_option maxRecDepth 100000
set_option maxHeartbeats 40000000
def b8l (p : Pg) : Bool := decide (150 < grN p p.funcs.length)
theorem d0e (p : Pg) (hf : p.funcs.length <= 2000000) (hfc : ∀ x ∈ p.funcs, x.code.length <= 2000000) : PC Tryz.prog Gl 12 [.agg [.list 4 (fns p.funcs), .list 2 (gbs p.globals), .list 1 (lays p.layouts), .int .i64 p.main]] (.bool (b8l p)) := by
 have hg0 : IntKind.wrap .i64 ((p.globals.length : Int) + (p.layouts.length : Int)) = grN p 0 := rfl
 refine a6n (res := [.tmp 2]) 5 40 [] (fun d ix => 0 :: d :: ix) (fn := Tryz.f12) (by kernel_rfl) (by rfl) (by rfl) (by rfl) (by simp) (by decide) ?_
 repeat' first
  | ((with_reducible refine a2c ?_); refine a3f (σ := {i : Nat // i <= p.funcs.length}) (fun y => [(3, .int .i64 (grN p y.1)), (4, .int .i64 (y.1 : Int))]) [] (fun y => []) [] (fun y => []) (fun y => noH) (fun y => p.funcs.length - y.1) ⟨0, by simp⟩ (gk3 (j := 0) [] (Bs.pc _) ?_ ?_ ?_ ?_ ?_ ?_ ?_) ?_; (iterate 7 (focus (first | rfl | (simp [LPXB, *, SIMB, hdN, injB]; done)))); rintro ⟨i, hi⟩; simp only [lpS, LPXB]; (try dsimp only at hi); rcases a1y hi with hlt | ⟨hlt, rfl⟩; have wi := wli hlt (Nat.le_trans hf (by decide)); have e := g9b hlt; have hfc' := hfc _ (List.getElem_mem hlt); have hwl := wlen (p.funcs[i]'hlt).code.length (by omega))
  | ((with_reducible refine a1m ?_); refine a2a (⟨i + 1, by omega⟩) (gk3 (j := 0) [] (Bs.pc _) ?_ ?_ ?_ ?_ ?_ ?_ ?_) ?_; (iterate 7 (focus (first | rfl | (simp [LPXB, *, SIMB, hdN, injB]; done)))); (focus (dsimp only; omega)))
  | with_reducible first | refine a3m (id := 5) 19 a1v (by kernel_rfl) fun K hK => ?_ | refine stp ?_ | refine stpK ?_; intro K hK | refine stpC ?_; intro T E hT hE | refine stp2 ?_ ?_ <;> intro h | refine a0x rfl ?_ | refine a1a rfl (Nat.le_of_ble_eq_true rfl) a0z ?_ | refine a1a rfl (Nat.le_of_ble_eq_true rfl) (a0y (by simp [HPXB, ext, upd, *])) ?_ | refine a2i (by decide) (by kernel_rfl) ?_ | refine a1j (by decide) ?_ | refine Kont.go hK ?_; clear hK K | refine KT.go hT ?_; clear hT hE T E | refine KT.go hE ?_; clear hT hE T E
  | simp [*, -List.all_flatten, -List.all_eq_true, DEFB, LENB, b8l, g9m, asR]
noncomputable def famA (p : Pg) (k : Nat) : Heap := fun l => match l with
 | [95, f] => if f < k then (match p.funcs[f]? with
   | some y => some (.cells 72 11 [[.list 4 (fns p.funcs), .list 2 (gbs p.globals), .list 1 (lays p.layouts), .int .i64 p.main, .int .i64 f, .str y.name, .int .i64 y.params, .int .i64 y.regs, .list 5 (inss y.code), .sl [96, f] 1 0 y.code.length, .sl [97, f] 1 0 y.code.length]])
   | none => none) else none
 | [96, f] => if f < k then (match p.funcs[f]? with
   | some y => some (.cells 3 1 (ints (usL y.code)))
   | none => none) else none
 | [97, f] => if f < k then (match p.funcs[f]? with
   | some y => some (.cells 68 1 (u64s (hdG 64 y.code)))
   | none => none) else none
 | _ => none
def thr (p : Pg) (f : Nat) (nm : ByteArray) (pa rg : Int) (c : List Ins) (g : List (BitVec 64)) : List (FM.Loc × FO) := [([95, f], .cells 72 11 [[.list 4 (fns p.funcs), .list 2 (gbs p.globals), .list 1 (lays p.layouts), .int .i64 p.main, .int .i64 f, .str nm, .int .i64 pa, .int .i64 rg, .list 5 (inss c), .sl [96, f] 1 0 c.length, .sl [97, f] 1 0 c.length]]), ([96, f], .cells 3 1 (ints (usL c))), ([97, f], .cells 68 1 (u64s g))]
theorem f6i (p : Pg) : famA p 0 = noH := by
 funext l
 unfold famA
 split <;> simp [noH]
theorem a3l (p : Pg) (k : Nat) {q : Nat} {r : List Nat} (h : q < 95) : famA p k (q :: r) = none := by
 unfold famA
 split
 . rename_i e; simp only [List.cons.injEq] at e; omega
 . rename_i e; simp only [List.cons.injEq] at e; omega
 . rename_i e; simp only [List.cons.injEq] at e; omega
 . rfl
theorem c3y {p : Pg} {k f : Nat} {nm : ByteArray} {pa rg : Int} {c : List Ins} (hk : f < k) (hf : f < p.funcs.length) (e : p.funcs[f] = ⟨nm, pa, rg, c⟩) : famA p k [95, f] = some (.cells 72 11 [[.list 4 (fns p.funcs), .list 2 (gbs p.globals), .list 1 (lays p.layouts), .int .i64 p.main, .int .i64 f, .str nm, .int .i64 pa, .int .i64 rg, .list 5 (inss c), .sl [96, f] 1 0 c.length, .sl [97, f] 1 0 c.length]]) /\ famA p k [96, f] = some (.cells 3 1 (ints (usL c))) /\ famA p k [97, f] = some (.cells 68 1 (u64s (hdG 64 c))) := by
 have e2 : p.funcs[f]? = some ⟨nm, pa, rg, c⟩ := by rw [List.getElem?_eq_getElem hf, e]
 refine ⟨?_, ?_, ?_⟩ <;> simp [famA, hk, e2]
theorem f6h {p : Pg} {k : Nat} {nm : ByteArray} {pa rg : Int} {c : List Ins} (hf : k < p.funcs.length) (e : p.funcs[k] = ⟨nm, pa, rg, c⟩) : famA p (k + 1) = updL (thr p k nm pa rg c (hdG 64 c)) (famA p k) := by
 have e2 : p.funcs[k]? = some ⟨nm, pa, rg, c⟩ := by rw [List.getElem?_eq_getElem hf, e]
 obtain ⟨h1, h2, h3⟩ := c3y (k := k + 1) (by omega) hf e
 funext l
 unfold thr
 simp only [a1w, a2d]
 split
 . rename_i el; rw [el]; exact h1
 split
 . rename_i el; rw [el]; exact h2
 split
 . rename_i el; rw [el]; exact h3
 rename_i n1 n2 n3
 have key : ∀ f, f ≠ k -> (f < k + 1 ↔ f < k) := fun f hf => by omega
 unfold famA
 split
 . rename_i f
   have : f ≠ k := fun h => n1 (by rw [h])
   simp only [key f this]
 . rename_i f
   have : f ≠ k := fun h => n2 (by rw [h])
   simp only [key f this]
 . rename_i f
   have : f ≠ k := fun h => n3 (by rw [h])
   simp only [key f this]
 . rfl
theorem d9m {p : Pg} {k : Nat} : famA p k [95, k] = none /\ famA p k [96, k] = none /\ famA p k [97, k] = none := by
 refine ⟨?_, ?_, ?_⟩ <;> simp [famA]
theorem d9n {p : Pg} {k f : Nat} (h : famA p k [95, f] ≠ none) : famA p k [96, f] ≠ none /\ famA p k [97, f] ≠ none := by
 unfold famA at h ⊢
 simp only at h ⊢
 split at h
 . rename_i hk
   simp only [if_pos hk]
   cases e : p.funcs[f]? with
   | none => rw [e] at h; simp at h
   | some y => simp
 . simp at h
theorem c6z (p : Pg) (k : Nat) : Clo (famA p k) := fun l o h => by
 by_cases h5 : ∃ f, l = [95, f]
 . obtain ⟨f, rfl⟩ := h5
   obtain ⟨d6, d7⟩ := d9n (p := p) (k := k) (f := f) (by rw [h]; simp)
   unfold famA at h
   simp only at h
   split at h
   . split at h
     . obtain rfl := Option.some.inj h
       exact ⟨⟨a0d _, a0g _, a0a _, trivial, trivial, trivial, trivial, trivial, a0b _, d6, d7, trivial⟩, trivial⟩
     . cases h
   . cases h
 . unfold famA at h
   split at h
   . exact absurd ⟨_, rfl⟩ h5
   . split at h
     . split at h
       . obtain rfl := Option.some.inj h
         exact a6f _ _
       . cases h
     . cases h
   . split at h
     . split at h
       . obtain rfl := Option.some.inj h
         exact a6l _ _
       . cases h
     . cases h
   . cases h
theorem bsF (p : Pg) (k : Nat) : Bs (fun _ => False) 6 noH (famA p k) := ⟨fun _ _ _ => rfl, fun q r hq => a3l p k (by omega), fun l o h => by
 have e : ext noH (famA p k) = famA p k := by
  funext l
  unfold ext
  cases famA p k l <;> rfl
 rw [e] at h ⊢
 exact c6z p k l o h, fun _ h => h.elim⟩
theorem e0j {P : Program} {c : Cfg} {ops : Array Oper} {o : Oper} {rest : List Oper} {K : Fs -> Prop} {s : Fs} {fn : Nat} {Ar : List FV} {r : FV} {L : List (FM.Loc × FO)} {p : Pg} {k : Nat} {nm : ByteArray} {pa rg : Int} {cd : List Ins} (hs : s.H = HP L noH (famA p k)) (hf : k < p.funcs.length) (e : p.funcs[k] = ⟨nm, pa, rg, cd⟩)
 (hfc : FC P c.G fn Ar (HP [] (ext (updL L noH) (famA p k)) noH) r (HP (thr p k nm pa rg cd (hdG 64 cd)) (ext (updL L noH) (famA p k)) noH)) (h : StK P c ops rest K (putD c o r { s with H := HP L noH (famA p (k + 1)) })) : b1j P c ops o rest K s fn true Ar := by
 have e2 : HP (thr p k nm pa rg cd (hdG 64 cd)) (ext (updL L noH) (famA p k)) noH = HP L noH (famA p (k + 1)) := by
  rw [f6h hf e]
  funext l
  show updL (thr p k nm pa rg cd (hdG 64 cd)) (ext (updL L noH) (famA p k)) l = ext (updL L noH) (updL (thr p k nm pa rg cd (hdG 64 cd)) (famA p k)) l
  unfold thr
  simp only [a1w, a2d, ext]
  split
  . rfl
  split
  . rfl
  split
  . rfl
  rfl
 rw [e2] at hfc
 exact ⟨rfl, r, _, by rw [hs]; exact hfc, h⟩
structure BsW (B : Heap) : Prop where
 toH : BsH 7 B
 f71 : B [71] = none
 f72 : B [72] = none
 lv : ∀ l o, B l = some o -> o ≠ .dead
theorem BsW.live {B : Heap} (h : BsW B) : ∀ l, inH (HP [] B noH) l -> ∃ o, ext B noH l = some o /\ o ≠ .dead := fun l hl => by
 cases e : B l with
 | none => exact absurd (by unfold HP; rw [a0n]; exact e) hl
 | some o => exact ⟨o, by rw [a0n]; exact e, h.lv l o e⟩
theorem BsW.c5 {B : Heap} (h : BsW B) : Clo (ext B noH) := by rw [a0n]; exact h.toH.clo
theorem BsW.l5 {B : Heap} (_ : BsW B) : ∀ l, inH (HP [] B noH) l -> ext B noH l ≠ none := fun _ h => h
theorem c3x (p : Pg) {i : Nat} (h : i < p.funcs.length) : fns (p.funcs.take (i + 1)) = fns (p.funcs.take i) ++ [[.str p.funcs[i].name, .int .i64 p.funcs[i].params, .int .i64 p.funcs[i].regs, .list 5 (inss p.funcs[i].code)]] := by
 rw [List.take_add_one, List.getElem?_eq_getElem h, a0r]; rfl
theorem b9z (p : Pg) {i : Nat} (h : i < p.layouts.length) : lays (p.layouts.take (i + 1)) = lays (p.layouts.take i) ++ [[.list 1 (ints p.layouts[i])]] := by
 rw [List.take_add_one, List.getElem?_eq_getElem h, a0l]; rfl
theorem b0f (U : FM.Loc -> Prop) : ∀ x : List FnD, a3o U (fns x)
 | [] => trivial
 | f :: x => ⟨⟨trivial, trivial, trivial, a0b f.code, trivial⟩, b0f U x⟩
theorem rgI : Rd Tryz.prog 3 1 (fun n : Int => [.int .i64 n]) (fun _ n => IntKind.i64.min <= n /\ n <= IntKind.i64.max) := e1l Tryz.underlying3 (by kernel_rfl)
theorem rgS : Rd Tryz.prog 9 1 (fun s : ByteArray => [.str s]) (fun N s => s.size <= maxLen /\ s.size <= N) := f4c Tryz.underlying9 (by kernel_rfl)
theorem g7z : Rd Tryz.prog 42 5 Ins.row (fun _ _ => True) :=
 b2i Tryz.underlying42 (by kernel_rfl) (a5i rfl rgI (a5i rfl rgI (a5i rfl rgI (a5i rfl rgI (a5i rfl rgI b9n))))) (fun x => match x with | (x0, x1, x2, x3, x4, ()) => ⟨x0, x1, x2, x3, x4⟩) (by intro x; rfl) (fun _ _ _ => trivial) (by intro y; rfl)
theorem f3y : Rd Tryz.prog 33 1 (fun L : List Ins => [.list 5 (inss L)]) (fun N L => L.length <= N /\ ∀ x ∈ L, True) := b2j Tryz.underlying33 (by kernel_rfl) (by decide) g7z
theorem rgFn : Rd Tryz.prog 35 4 FnD.row (fun N f => f.code.length <= N /\ f.name.size <= N) :=
 b2i Tryz.underlying35 (by kernel_rfl) (a5i rfl rgS (a5i rfl rgI (a5i rfl rgI (a5i rfl f3y b9n)))) (fun x => match x with | (x0, x1, x2, x3, ()) => ⟨x0, x1, x2, x3⟩) (by intro x; rfl) (fun _ _ h => ⟨h.2.2.2.1.1, h.1.2⟩) (by intro y; rfl)
theorem g8b : Rd Tryz.prog 22 1 (fun L : List FnD => [.list 4 (fns L)]) (fun N L => L.length <= N /\ ∀ x ∈ L, x.code.length <= N /\ x.name.size <= N) := b2j Tryz.underlying22 (by kernel_rfl) (by decide) rgFn
theorem rgGb : Rd Tryz.prog 79 2 Gb.row (fun _ _ => True) :=
 b2i Tryz.underlying79 (by kernel_rfl) (a5i rfl rgS (a5i rfl rgI b9n)) (fun x => match x with | (x0, x1, ()) => ⟨x0, x1⟩) (by intro x; rfl) (fun _ _ _ => trivial) (by intro y; rfl)
theorem g8a : Rd Tryz.prog 23 1 (fun L : List Gb => [.list 2 (gbs L)]) (fun N L => L.length <= N /\ ∀ x ∈ L, True) := b2j Tryz.underlying23 (by kernel_rfl) (by decide) rgGb
theorem g7y : Rd Tryz.prog 36 1 a4h (fun N L => L.length <= N /\ ∀ x ∈ L, IntKind.i64.min <= x /\ x <= IntKind.i64.max) := b2j Tryz.underlying36 (by kernel_rfl) (by decide) rgI
theorem f3x : Rd Tryz.prog 24 1 (fun L : List (List Int) => [.list 1 (lays L)]) (fun N L => L.length <= N /\ ∀ x ∈ L, x.length <= N /\ ∀ y ∈ x, IntKind.i64.min <= y /\ y <= IntKind.i64.max) := b2j Tryz.underlying24 (by kernel_rfl) (by decide) g7y
def g8g (p : Pg) : List FV := [.list 4 (fns p.funcs), .list 2 (gbs p.globals), .list 1 (lays p.layouts), .int .i64 p.main]
structure PgN (N : Nat) (p : Pg) : Prop where
 hf : p.funcs.length <= N
 hg : p.globals.length <= N
 hl : p.layouts.length <= N
 hb : ∀ x ∈ p.layouts, x.length <= N
 hfc : ∀ x ∈ p.funcs, x.code.length <= N /\ x.name.size <= N
theorem PgN.up {p : Pg} {M : Nat} (h : PgN M p) (hm : M <= 2000000) : PgB p := ⟨Nat.le_trans h.hf hm, Nat.le_trans h.hg hm, Nat.le_trans h.hl hm, fun x hx => Nat.le_trans (h.hb x hx) hm, fun x hx => Nat.le_trans (h.hfc x hx).1 hm⟩
theorem rgPg : Rd Tryz.prog 26 4 g8g PgN :=
 b2i Tryz.underlying26 (by kernel_rfl) (a5i rfl g8b (a5i rfl g8a (a5i rfl f3x (a5i rfl rgI b9n)))) (fun x => match x with | (x0, x1, x2, x3, ()) => ⟨x0, x1, x2, x3⟩) (by intro x; rfl) (fun _ _ h => ⟨h.1.1, h.2.1.1, h.2.2.1.1, fun x hx => (h.2.2.1.2 x hx).1, h.1.2⟩) (by intro y; rfl)
theorem rg8 : Rd Tryz.prog 5 1 (fun n : Int => [.int .u8 n]) (fun _ n => IntKind.u8.min <= n /\ n <= IntKind.u8.max) := e1l Tryz.underlying5 (by kernel_rfl)
theorem Rd.int1 {P : Program} {t : TypeId} {k : IntKind} (h : Rd P t 1 (fun n : Int => [FV.int k n]) (fun _ n => k.min <= n /\ n <= k.max)) {H : Type} {enc : TypeId × Value -> H} {w : World} {spare : Nat -> Bool} {held : Bool} {n : Int} {d : DataW H} {ps : List MemPlace} (ht : DataW.Trod enc P w 0 spare held t (.int k n) d ps) : k.min <= n /\ n <= k.max := by
 obtain ⟨m, hn⟩ := ht
 obtain ⟨x, hx, hr⟩ := h.2.2 H enc w spare held m _ _ (by simpa [Value.cells] using hn) _ (Nat.le_refl _)
 cases hr with
 | cons _ _ _ _ h1 h2 => cases h1; exact hx
theorem f3z {w : World} {k : IntKind} {n : Int} : RFs w (fun b => b < w.heap.size) (fun _ => False) (fun _ => (0, 0)) [.int k n] [.int k n] := .cons _ _ _ _ (.int k n) .nil
mutual
theorem a9o {H : Type} : ∀ d : DataW H, bulk d = YtfhhgjbcenhdeaaGreatDoor.Rows.uptoBulk d
 | .lit (.string _) => by simp [bulk, YtfhhgjbcenhdeaaGreatDoor.Rows.uptoBulk]
 | .lit (.int ..) => by simp [bulk, YtfhhgjbcenhdeaaGreatDoor.Rows.uptoBulk]
 | .lit (.bool _) => by simp [bulk, YtfhhgjbcenhdeaaGreatDoor.Rows.uptoBulk]
 | .lit (.float ..) => by simp [bulk, YtfhhgjbcenhdeaaGreatDoor.Rows.uptoBulk]
 | .lit .nil => by simp [bulk, YtfhhgjbcenhdeaaGreatDoor.Rows.uptoBulk]
 | .nil => by simp [bulk, YtfhhgjbcenhdeaaGreatDoor.Rows.uptoBulk]
 | .ptr d => by simp [bulk, YtfhhgjbcenhdeaaGreatDoor.Rows.uptoBulk, a9o d]
 | .slice a b => by simp [bulk, YtfhhgjbcenhdeaaGreatDoor.Rows.uptoBulk, b1c a, b1c b]
 | .agg a => by simp [bulk, YtfhhgjbcenhdeaaGreatDoor.Rows.uptoBulk, b1c a]
 | .iface _ d => by simp [bulk, YtfhhgjbcenhdeaaGreatDoor.Rows.uptoBulk, a9o d]
 | .map es => by simp [bulk, YtfhhgjbcenhdeaaGreatDoor.Rows.uptoBulk, b1n es]
 | .held _ => by simp [bulk, YtfhhgjbcenhdeaaGreatDoor.Rows.uptoBulk]
theorem b1c {H : Type} : ∀ l : List (DataW H), a8k l = YtfhhgjbcenhdeaaGreatDoor.Rows.uptoBulkAll l
 | [] => by simp [a8k, YtfhhgjbcenhdeaaGreatDoor.Rows.uptoBulkAll]
 | d :: r => by simp [a8k, YtfhhgjbcenhdeaaGreatDoor.Rows.uptoBulkAll, a9o d, b1c r]
theorem b1n {H : Type} : ∀ l : List (Lit × DataW H), a8j l = YtfhhgjbcenhdeaaGreatDoor.Rows.uptoBulkEntries l
 | [] => by simp [a8j, YtfhhgjbcenhdeaaGreatDoor.Rows.uptoBulkEntries]
 | x :: r => by simp [a8j, YtfhhgjbcenhdeaaGreatDoor.Rows.uptoBulkEntries, c2p x, b1n r]
theorem c2p {H : Type} : ∀ x : Lit × DataW H, a8i x = YtfhhgjbcenhdeaaGreatDoor.Rows.uptoBulkEntry x
 | (.string _, d) => by simp [a8i, YtfhhgjbcenhdeaaGreatDoor.Rows.uptoBulkEntry, a9o d]
 | (.int .., d) => by simp [a8i, YtfhhgjbcenhdeaaGreatDoor.Rows.uptoBulkEntry, a9o d]
 | (.bool _, d) => by simp [a8i, YtfhhgjbcenhdeaaGreatDoor.Rows.uptoBulkEntry, a9o d]
 | (.float .., d) => by simp [a8i, YtfhhgjbcenhdeaaGreatDoor.Rows.uptoBulkEntry, a9o d]
 | (.nil, d) => by simp [a8i, YtfhhgjbcenhdeaaGreatDoor.Rows.uptoBulkEntry, a9o d]
end
end Go.Je
