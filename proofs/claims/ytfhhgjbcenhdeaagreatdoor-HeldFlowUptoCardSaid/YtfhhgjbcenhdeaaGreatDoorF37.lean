/- Parts of the proof. -/
import Derived.Test.YtfhhgjbcenhdeaaGreatDoorF34
set_option linter.unusedSimpArgs false
set_option linter.unusedVariables false
namespace Go.Je
open Go Go.FM Go.Gv Go.Proofs
set_option maxRecDepth 100000
set_option maxHeartbeats 40000000
theorem d1m {p : Pg} {f : Nat} {nm : ByteArray} {pa rg : Int} {c : List Ins} (hF : FOk p f nm pa rg c) (hu64 : ∀ i, usC c i < 64) {B : Heap} (hB : BsL f B) : FC Tryz.prog Gl 40 [.agg [.list 4 (fns p.funcs), .list 2 (gbs p.globals), .list 1 (lays p.layouts), .int .i64 p.main], .int .i64 f] (HP [] B noH) (.ptr [95, f] 11 0 0) (HP [([95, f], .cells 72 11 [[.list 4 (fns p.funcs), .list 2 (gbs p.globals), .list 1 (lays p.layouts), .int .i64 p.main, .int .i64 f, .str nm, .int .i64 pa, .int .i64 rg, .list 5 (inss c), .sl [96, f] 1 0 c.length, .sl [97, f] 1 0 c.length]]), ([96, f], .cells 3 1 (ints (usL c))), ([97, f], .cells 68 1 (u64s (hdG 64 c)))] B noH) := by
 have hc := hF.hc
 have hf := hF.hf
 have he := hF.e
 have hfl := hF.h1
 have h1000 := hc.n1000
 have hbl := b3m c hc
 have hst0 := f6k hc
 have fB : ∀ r, B (5 :: r) = none := fun r => hB.fr 5 r (nr_ _)
 have f95 := hB.f95
 have f96 := hB.f96
 have f97 := hB.f97
 have hfa : f < (fns p.funcs).length := by rw [a1c]; exact hf
 obtain ⟨ord, hord, hol, tOrd⟩ := e5m (nm := nm) (pa := pa) (rg := rg) hc
 obtain ⟨ons, hons⟩ : ∃ w, BitVec.allOnes 64 = w := ⟨_, rfl⟩
 have hro := d9k
 rw [hons] at hro
 simp at hro
 refine a5n (res := [.tmp 4]) 16 116 [37, 36, 35, 101, 100, 99] (fun d ix => 5 :: d :: ix) (fn := Tryz.f40) (by kernel_rfl) (by rfl) (by rfl) (by rfl) (by simp) (by decide) ?_
 repeat' first
  | ((with_reducible refine f7o hB.toH ?_ ?_ ?_ ?_); (focus (simp [fB, f95, f96, f97]; done)); (focus (simp [HPXB]; done)); (focus (simp [nin, inH, HPXB]; done)); (focus (simp [ninL, ninO, a2u, nins, nin, a0e, a0m, a0c, a0a, a0b, a2i, a5l, a5r, inH, HPXB, bRow, *]; done)))
  | ((with_reducible refine a1a ?_); refine a1q (σ := {j : Nat // j <= (blks c).length}) (fun y => [(5, .ptr [95, f] 11 0 0), (9, .undef), (10, .undef), (11, .undef), (12, .undef)]) [36, 35] (fun y => [(37, .int .i64 (y.1 : Int))]) [[5, 24]] (fun y => [([95, f], .cells 72 11 [[.list 4 (fns p.funcs), .list 2 (gbs p.globals), .list 1 (lays p.layouts), .int .i64 p.main, .int .i64 f, .str nm, .int .i64 pa, .int .i64 rg, .list 5 (inss c), .sl [96, f] 1 0 (stJ c y.1), .sl [97, f] 1 0 (stJ c y.1)]]), ([96, f], .cells 3 1 (ints ((usL c).take (stJ c y.1)))), ([97, f], .cells 68 1 (u64s ((g0B 64 c).take (stJ c y.1))))]) (fun y => noH) (fun y => (blks c).length - y.1) ⟨0, by simp⟩ (gk5S [([95, f], some [5, 24]), ([96, f], none), ([97, f], none)] rfl hB.c5 hB.l5 ?_ ?_ ?_ ?_ ?_ ?_) ?_; (iterate 2 (focus (simp [LPXB, *, SIMB, a1l, a0w, fB, f95, f96, f97, a0d, a0f, a1t, a2i, a3b, a3p, a2x, a2q, hst0, List.take_zero, a2r, c5r]; done))); (focus (simp [injB, bk, LPXB]; done)); (iterate 3 (focus (simp [LPXB, *, SIMB, bk_n, bk_c, inH, a1l, a0w, fB, f95, f96, f97, a0d, a0f, a1t, a2i, a3b, a3p, a2x, a2q, hst0, List.take_zero, a2r, c5r]; done))); rintro ⟨j, hj⟩; simp only [lpS, LPXB]; (try dsimp only at hj); rcases a0z hj with hlt | ⟨hlt, e⟩; rotate_left; subst e; have hse := e5p c; have htu : (usL c).take c.length = usL c := tL_ (by rw [a3b]; exact nr_ _); have htg : (g0B 64 c).take c.length = g0B 64 c := tL_ (by rw [a3p]; exact nr_ _); simp only [hse, htu, htg]; rotate_left; have wj := wli hlt (by omega); obtain ⟨hBk, hBl⟩ := a9c hlt; have hBlt := hBk.lt; have hsj := c1p hlt; have hsn := f6j hc hlt; have hnum := hBk.num; obtain ⟨b1, hb1⟩ : ∃ b1, (blks c)[j].1 = b1 := ⟨_, rfl⟩; obtain ⟨b2, hb2⟩ : ∃ b2, (blks c)[j].2 = b2 := ⟨_, rfl⟩; rw [hb1] at hsj hBlt hnum; rw [hb2] at hsn hBlt hnum hBl; simp only [hsj]; rotate_left)
  | ((with_reducible refine a1a ?_); refine a1q (σ := {i : Nat // b1 <= i /\ i <= b2}) (fun y => [(10, .int .i64 (y.1 : Int)), (11, .undef), (12, .undef)]) [36, 35, 37] (fun y => []) [] (fun y => [([95, f], .cells 72 11 [[.list 4 (fns p.funcs), .list 2 (gbs p.globals), .list 1 (lays p.layouts), .int .i64 p.main, .int .i64 f, .str nm, .int .i64 pa, .int .i64 rg, .list 5 (inss c), .sl [96, f] 1 0 y.1, .sl [97, f] 1 0 y.1]]), ([96, f], .cells 3 1 (ints ((usL c).take y.1))), ([97, f], .cells 68 1 (u64s ((g0B 64 c).take y.1)))]) (fun y => noH) (fun y => b2 - y.1) ⟨b1, nr_ _, by omega⟩ (gk5S [] rfl hB.c5 hB.l5 ?_ ?_ ?_ ?_ ?_ ?_) ?_; (iterate 2 (focus (simp [LPXB, *, SIMB, a1l, a0w, fB, f95, f96, f97, a0d, a0f, a1t, a2i, a3b, a3p, a2x, a2q]; done))); (focus (simp [injB, bk, LPXB]; done)); (iterate 3 (focus (simp [LPXB, *, SIMB, bk_n, bk_c, inH, a1l, a0w, fB, f95, f96, f97, a0d, a0f, a1t, a2i, a3b, a3p, a2x, a2q]; done))); rintro ⟨i, hi1, hi2⟩; simp only [lpS, LPXB]; (try dsimp only at hi1 hi2); have hlu : ((usL c).take i).length = i := (by rw [List.length_take, a3b]; omega); have hlg : ((g0B 64 c).take i).length = i := (by rw [List.length_take, a3p]; omega); have htu : (ints ((usL c).take i)).take i = ints ((usL c).take i) := tL_ (by rw [a0n]; omega); have htg : (u64s ((g0B 64 c).take i)).take i = u64s ((g0B 64 c).take i) := tL_ (by rw [a1t]; omega); rcases a0z hi2 with hlti | ⟨hlti, e⟩; rotate_left; subst e; rotate_left; have hil : i < c.length := (by omega); have wi : IntKind.wrap .i64 ((i : Int) + 1) = (i : Int) + 1 := (by rw [IntKind.wrap_i64]; omega); have hsf := (hnum i hi1 hlti).1; have hus := c5m hil; rw [hsf] at hus; have htk := f0k hil; have hrl : i < (a4h c).length := (by rw [a6i]; exact hil); have hra := b5t hrl; have s1 : (i + 1 + (i + 1) / 4 + 192) * 8 <= 140737488355328 := (by omega); have s2 : i <= 4611686018427387903 := (by omega); have hg0 := c7u (N := 64) hil; have hgA : (a4h c)[i] = true -> 0 < i -> u64s ((g0B 64 c).take i) ++ [[.int .u64 (ons.toNat : Int)]] = u64s ((g0B 64 c).take (i + 1)) := (fun h1 h2 => f3l hil ((hg0.1 ⟨hra.1 h1, h2⟩).trans hons)); have hgB : ¬ ((a4h c)[i] = true /\ 0 < i) -> u64s ((g0B 64 c).take i) ++ [[.int .u64 0]] = u64s ((g0B 64 c).take (i + 1)) := (fun h => f3l (w := 0) hil (hg0.2 fun h2 => h ⟨hra.2 h2.1, h2.2⟩)); have hgC : (a4h c)[i] = false -> u64s ((g0B 64 c).take i) ++ [[.int .u64 0]] = u64s ((g0B 64 c).take (i + 1)) := (fun h => hgB fun h2 => by rw [h] at h2; exact absurd h2.1 (by decide)); have hgD : ¬ 0 < i -> u64s ((g0B 64 c).take i) ++ [[.int .u64 0]] = u64s ((g0B 64 c).take (i + 1)) := (fun h => hgB fun h2 => h h2.2); clear hgB hra hg0; by_cases hlk : lkO c[i].op = true; rw [if_pos hlk] at hus; replace hus := hus.symm; rotate_left; rw [if_neg hlk] at hus; rw [hus] at htk; rotate_left)
  | ((with_reducible refine a1a ?_); refine a1q (σ := {y : List (BitVec 64) × Bool // Hin 64 c y.1 /\ (y.2 = false -> y.1 = hdG 64 c)}) (fun y => [(13, .bool y.1.2), (15, .undef)]) [] (fun y => []) [] (fun y => [([97, f], .cells 68 1 (u64s y.1.1))]) (fun y => noH) (fun y => muG c y.1.1 y.1.2) ⟨(g0B 64 c, true), f8g hc, by simp⟩ (gk5S [] rfl hB.c5 hB.l5 ?_ ?_ ?_ ?_ ?_ ?_) ?_; (iterate 2 (focus (simp [LPXB, *, SIMB, a1l, a0w, fB, f95, f96, f97, a0d, a0f, a1t, a2i, a3b, a3p, a2x, a2q]; done))); (focus (simp [injB, bk, LPXB]; done)); (iterate 3 (focus (simp [LPXB, *, SIMB, bk_n, bk_c, inH, a1l, a0w, fB, f95, f96, f97, a0d, a0f, a1t, a2i, a3b, a3p, a2x, a2q]; done))); rintro ⟨⟨g, m⟩, hI, hm⟩; simp only [lpS, LPXB]; (try dsimp only at hI hm); cases m; have hg := hm rfl; subst hg; rotate_left; have hgl := hI.len; rotate_left)
  | ((with_reducible refine a1a ?_); refine a1q (σ := {y : Nat × (List (BitVec 64) × Bool) // y.1 <= ord.length /\ Csw 64 c ord y.1 g y.2.1 y.2.2}) (fun y => [(13, .bool y.1.2.2), (15, .undef)]) [100, 99] (fun y => [(101, .int .i64 (y.1.1 : Int))]) [] (fun y => [([97, f], .cells 68 1 (u64s y.1.2.1))]) (fun y => noH) (fun y => ord.length - y.1.1) ⟨(0, (g, false)), by simp, Csw.init hI⟩ (gk5S [] rfl hB.c5 hB.l5 ?_ ?_ ?_ ?_ ?_ ?_) ?_; (iterate 2 (focus (simp [LPXB, *, SIMB, a1l, a0w, fB, f95, f96, f97, a0d, a0f, a1t, a2i, a3b, a3p, a2x, a2q]; done))); (focus (simp [injB, bk, LPXB]; done)); (iterate 3 (focus (simp [LPXB, *, SIMB, bk_n, bk_c, inH, a1l, a0w, fB, f95, f96, f97, a0d, a0f, a1t, a2i, a3b, a3p, a2x, a2q]; done))); rintro ⟨⟨k, g1, m1⟩, hk, hC⟩; simp only [lpS, LPXB]; (try dsimp only at hk hC); have hI1 := hC.run.run.inn; have hgl1 := hI1.len; rcases a0z hk with hlt | ⟨hlt, e⟩; rotate_left; subst e; have hmu := hC.mu; have hfin : m1 = false -> g1 = hdG 64 c := (fun h => by subst h; exact (hC.fin hc hord hI).1); rotate_left; have wk := wli hlt (by omega); obtain ⟨jb, hj1, hjl, hab, hle2, hC2⟩ := hC.step hc hord hlt; have hane : (blks c)[jb].1 + ((blks c)[jb].2 - (blks c)[jb].1) = (blks c)[jb].2 := (by omega); obtain ⟨⟨G, r⟩, hr⟩ : ∃ s, (rndC c (blks c)[jb].1 g1 ((blks c)[jb].2 - (blks c)[jb].1)) = s := ⟨_, rfl⟩; rw [hr] at hC2; dsimp only at hC2; cases r; rw [Bool.false_or] at hC2; rotate_left; rw [Bool.true_or] at hC2; rotate_left)
  | ((with_reducible refine cgB ?_); refine e1z rfl (f0r (U := .sl [96, f] 1 0 i) (I := .sl [97, f] 1 0 i) hF (BsH.callS hB.toH 2 (by decide) ?_ ?_) ?_ hil hi1) ?_; (focus rfl); (focus (simp [ninL, ninO, a2u, nins, nin, a0e, a0m, a0c, a0a, a0b, a2i, a5l, a5r, inH, HPXB, bRow, *]; done)); (focus (simp [ext, a1w, a1p, a1v]; done)))
  | ((with_reducible refine cgB ?_); refine e1y rfl ?_ (e5e (g := g1) (a := (blks c)[jb].1) hF hu64 (BsH.toG (BsH.callS hB.toH 3 (by decide) ?_ ?_)) ?_ ?_ hgl1 hane hle2) ?_; (focus (simp [HPXB]; done)); (focus rfl); (focus (simp [ninL, ninO, a2u, nins, nin, a0e, a0m, a0c, a0a, a0b, a2i, a5l, a5r, inH, HPXB, bRow, *]; done)); (iterate 2 (focus (simp [ext, a1w, a1p, a1v]; done))))
  | ((with_reducible refine a0q ?_); refine a1b (⟨i + 1, by omega, by omega⟩) (gk5S [([96, f], some [5, 70]), ([97, f], some [5, 90])] rfl hB.c5 hB.l5 ?_ ?_ ?_ ?_ ?_ ?_) ?_; (iterate 2 (focus (simp [LPXB, *, SIMB, a1l, a0w, fB, f95, f96, f97, a0d, a0f, a1t, a2i, a3b, a3p, a2x, a2q]; done))); (focus (simp [injB, bk, LPXB]; done)); (iterate 3 (focus (simp [LPXB, *, SIMB, bk_n, bk_c, inH, a1l, a0w, fB, f95, f96, f97, a0d, a0f, a1t, a2i, a3b, a3p, a2x, a2q]; done))); (focus (dsimp only; omega)))
  | ((with_reducible refine a0q ?_); refine a1b (⟨j + 1, by omega⟩) (gk5S [] rfl hB.c5 hB.l5 ?_ ?_ ?_ ?_ ?_ ?_) ?_; (iterate 2 (focus (simp [LPXB, *, SIMB, a1l, a0w, fB, f95, f96, f97, a0d, a0f, a1t, a2i, a3b, a3p, a2x, a2q, hsn]; done))); (focus (simp [injB, bk, LPXB]; done)); (iterate 3 (focus (simp [LPXB, *, SIMB, bk_n, bk_c, inH, a1l, a0w, fB, f95, f96, f97, a0d, a0f, a1t, a2i, a3b, a3p, a2x, a2q, hsn]; done))); (focus (dsimp only; omega)))
  | ((with_reducible refine a0q ?_); refine a1b (⟨(k + 1, (G, true)), by omega, hC2⟩) (gk5S [] rfl hB.c5 hB.l5 ?_ ?_ ?_ ?_ ?_ ?_) ?_; (iterate 2 (focus (simp [LPXB, *, SIMB, a1l, a0w, fB, f95, f96, f97, a0d, a0f, a1t, a2i, a3b, a3p, a2x, a2q]; done))); (focus (simp [injB, bk, LPXB]; done)); (iterate 3 (focus (simp [LPXB, *, SIMB, bk_n, bk_c, inH, a1l, a0w, fB, f95, f96, f97, a0d, a0f, a1t, a2i, a3b, a3p, a2x, a2q]; done))); (focus (dsimp only; omega)))
  | ((with_reducible refine a0q ?_); refine a1b (⟨(k + 1, (G, m1)), by omega, hC2⟩) (gk5S [] rfl hB.c5 hB.l5 ?_ ?_ ?_ ?_ ?_ ?_) ?_; (iterate 2 (focus (simp [LPXB, *, SIMB, a1l, a0w, fB, f95, f96, f97, a0d, a0f, a1t, a2i, a3b, a3p, a2x, a2q]; done))); (focus (simp [injB, bk, LPXB]; done)); (iterate 3 (focus (simp [LPXB, *, SIMB, bk_n, bk_c, inH, a1l, a0w, fB, f95, f96, f97, a0d, a0f, a1t, a2i, a3b, a3p, a2x, a2q]; done))); (focus (dsimp only; omega)))
  | ((with_reducible refine a0q ?_); refine a1b (⟨(g1, m1), hI1, hfin⟩) (gk5S [] rfl hB.c5 hB.l5 ?_ ?_ ?_ ?_ ?_ ?_) ?_; (iterate 2 (focus (simp [LPXB, *, SIMB, a1l, a0w, fB, f95, f96, f97, a0d, a0f, a1t, a2i, a3b, a3p, a2x, a2q]; done))); (focus (simp [injB, bk, LPXB]; done)); (iterate 3 (focus (simp [LPXB, *, SIMB, bk_n, bk_c, inH, a1l, a0w, fB, f95, f96, f97, a0d, a0f, a1t, a2i, a3b, a3p, a2x, a2q]; done))); (focus (dsimp only; omega)))
  | with_reducible first | refine a2j (id := 1) 9 a0y (by kernel_rfl) fun K hK => ?_ | refine stp ?_ | refine stpK ?_; intro K hK | refine stpC ?_; intro T E hT hE | refine stp2 ?_ ?_ <;> intro h | refine a0g rfl ?_ | refine a1e (d1q hc) (by simp [nls, nl, *, NLXB]) ?_ | refine hpc (d1q hc) (by simp [nls, nl, *, NLXB]) ?_ | refine a1e (b4l hc) (by simp [nls, nl, *, NLXB]) ?_ | refine hpc (b4l hc) (by simp [nls, nl, *, NLXB]) ?_ | refine a1e tOrd (by simp [nls, nl, *, NLXB]) ?_ | refine hpc tOrd (by simp [nls, nl, *, NLXB]) ?_ | refine a1e (b7w _) (by simp [nls, nl, *, NLXB]) ?_ | refine hpc (b7w _) (by simp [nls, nl, *, NLXB]) ?_ | refine a0j rfl (lbR rfl) a0i ?_ | refine a0j rfl (lbR rfl) (a0h (by simp [HPXB, fB, f95, f96, f97, ext, upd, *])) ?_ | refine a1g (by decide) (by kernel_rfl) ?_ | refine a0o (by decide) ?_ | refine Kont.go hK ?_; clear hK K | refine KT.go hT ?_; clear hT hE T E | refine KT.go hE ?_; clear hT hE T E
  | simp [*, -List.all_flatten, -List.all_eq_true, DEFB, LENB, asR, a1w, Ins.row, a1k, a1t, b5j, bRow, a2x, f4p, a0d, a4s, a3u, rmvs, rmv, a5p, FV.cellV, a2g, d6y, a2f, a3x, FnD.row, a3b, a3p, a6i]
noncomputable def famA (p : Pg) (k : Nat) : Heap := fun l => match l with
 | [95, f] => if f < k then (match p.funcs[f]? with
   | some y => some (.cells 72 11 [[.list 4 (fns p.funcs), .list 2 (gbs p.globals), .list 1 (lays p.layouts), .int .i64 p.main, .int .i64 f, .str y.name, .int .i64 y.params, .int .i64 y.regs, .list 5 (inss y.code), .sl [96, f] 1 0 y.code.length, .sl [97, f] 1 0 y.code.length]])
   | none => none) else none
 | [96, f] => if f < k then (match p.funcs[f]? with
   | some y => some (.cells 3 1 (ints (usL y.code)))
   | none => none) else none
 | [97, f] => if f < k then (match p.funcs[f]? with
   | some y => some (.cells 68 1 (u64s (hdG 64 y.code)))
   | none => none) else none
 | _ => none
def thr (p : Pg) (f : Nat) (nm : ByteArray) (pa rg : Int) (c : List Ins) (g : List (BitVec 64)) : List (FM.Loc × FO) := [([95, f], .cells 72 11 [[.list 4 (fns p.funcs), .list 2 (gbs p.globals), .list 1 (lays p.layouts), .int .i64 p.main, .int .i64 f, .str nm, .int .i64 pa, .int .i64 rg, .list 5 (inss c), .sl [96, f] 1 0 c.length, .sl [97, f] 1 0 c.length]]), ([96, f], .cells 3 1 (ints (usL c))), ([97, f], .cells 68 1 (u64s g))]
theorem f3t (p : Pg) : famA p 0 = noH := by
 funext l
 unfold famA
 split <;> simp [noH]
theorem a4r (p : Pg) (k : Nat) {q : Nat} {r : List Nat} (h : q < 95) : famA p k (q :: r) = none := by
 unfold famA
 split
 . rename_i e; simp only [List.cons.injEq] at e; omega
 . rename_i e; simp only [List.cons.injEq] at e; omega
 . rename_i e; simp only [List.cons.injEq] at e; omega
 . rfl
theorem c4i {p : Pg} {k f : Nat} {nm : ByteArray} {pa rg : Int} {c : List Ins} (hk : f < k) (hf : f < p.funcs.length) (e : p.funcs[f] = ⟨nm, pa, rg, c⟩) : famA p k [95, f] = some (.cells 72 11 [[.list 4 (fns p.funcs), .list 2 (gbs p.globals), .list 1 (lays p.layouts), .int .i64 p.main, .int .i64 f, .str nm, .int .i64 pa, .int .i64 rg, .list 5 (inss c), .sl [96, f] 1 0 c.length, .sl [97, f] 1 0 c.length]]) /\ famA p k [96, f] = some (.cells 3 1 (ints (usL c))) /\ famA p k [97, f] = some (.cells 68 1 (u64s (hdG 64 c))) := by
 have e2 : p.funcs[f]? = some ⟨nm, pa, rg, c⟩ := by rw [gE_ hf, e]
 refine ⟨?_, ?_, ?_⟩ <;> simp [famA, hk, e2]
theorem f3s {p : Pg} {k : Nat} {nm : ByteArray} {pa rg : Int} {c : List Ins} (hf : k < p.funcs.length) (e : p.funcs[k] = ⟨nm, pa, rg, c⟩) : famA p (k + 1) = updL (thr p k nm pa rg c (hdG 64 c)) (famA p k) := by
 have e2 : p.funcs[k]? = some ⟨nm, pa, rg, c⟩ := by rw [gE_ hf, e]
 obtain ⟨h1, h2, h3⟩ := c4i (k := k + 1) (by omega) hf e
 funext l
 unfold thr
 simp only [a1p, a1v]
 split
 . rename_i el; rw [el]; exact h1
 split
 . rename_i el; rw [el]; exact h2
 split
 . rename_i el; rw [el]; exact h3
 rename_i n1 n2 n3
 have key : ∀ f, f ≠ k -> (f < k + 1 ↔ f < k) := fun f hf => by omega
 unfold famA
 split
 . rename_i f
   have : f ≠ k := fun h => n1 (by rw [h])
   simp only [key f this]
 . rename_i f
   have : f ≠ k := fun h => n2 (by rw [h])
   simp only [key f this]
 . rename_i f
   have : f ≠ k := fun h => n3 (by rw [h])
   simp only [key f this]
 . rfl
theorem e1j {p : Pg} {k : Nat} : famA p k [95, k] = none /\ famA p k [96, k] = none /\ famA p k [97, k] = none := by
 refine ⟨?_, ?_, ?_⟩ <;> simp [famA]
theorem e1k {p : Pg} {k f : Nat} (h : famA p k [95, f] ≠ none) : famA p k [96, f] ≠ none /\ famA p k [97, f] ≠ none := by
 unfold famA at h ⊢
 simp only at h ⊢
 split at h
 . rename_i hk
   simp only [if_pos hk]
   cases e : p.funcs[f]? with
   | none => rw [e] at h; simp at h
   | some y => simp
 . simp at h
theorem c8b (p : Pg) (k : Nat) : Clo (famA p k) := fun l o h => by
 by_cases h5 : ∃ f, l = [95, f]
 . obtain ⟨f, rfl⟩ := h5
   obtain ⟨d6, d7⟩ := e1k (p := p) (k := k) (f := f) (by rw [h]; simp)
   unfold famA at h
   simp only at h
   split at h
   . split at h
     . obtain rfl := sI_ h
       exact ⟨⟨a0e _, a0m _, a0c _, trivial, trivial, trivial, trivial, trivial, a0b _, d6, d7, trivial⟩, trivial⟩
     . cases h
   . cases h
 . unfold famA at h
   split at h
   . exact absurd ⟨_, rfl⟩ h5
   . split at h
     . split at h
       . obtain rfl := sI_ h
         exact a5l _ _
       . cases h
     . cases h
   . split at h
     . split at h
       . obtain rfl := sI_ h
         exact a5r _ _
       . cases h
     . cases h
   . cases h
theorem bsF (p : Pg) (k : Nat) : Bs (fun _ => False) 6 noH (famA p k) := ⟨fun _ _ _ => rfl, fun q r hq => a4r p k (by omega), fun l o h => by
 have e : ext noH (famA p k) = famA p k := by
  funext l
  unfold ext
  cases famA p k l <;> rfl
 rw [e] at h ⊢
 exact c8b p k l o h, fun _ h => h.elim⟩
theorem e2b {P : Program} {c : Cfg} {ops : Array Oper} {o : Oper} {rest : List Oper} {K : Fs -> Prop} {s : Fs} {fn : Nat} {Ar : List FV} {r : FV} {L : List (FM.Loc × FO)} {p : Pg} {k : Nat} {nm : ByteArray} {pa rg : Int} {cd : List Ins} (hs : s.H = HP L noH (famA p k)) (hf : k < p.funcs.length) (e : p.funcs[k] = ⟨nm, pa, rg, cd⟩)
 (hfc : FC P c.G fn Ar (HP [] (ext (updL L noH) (famA p k)) noH) r (HP (thr p k nm pa rg cd (hdG 64 cd)) (ext (updL L noH) (famA p k)) noH)) (h : StK P c ops rest K (putD c o r { s with H := HP L noH (famA p (k + 1)) })) : b0z P c ops o rest K s fn true Ar := by
 have e2 : HP (thr p k nm pa rg cd (hdG 64 cd)) (ext (updL L noH) (famA p k)) noH = HP L noH (famA p (k + 1)) := by
  rw [f3s hf e]
  funext l
  show updL (thr p k nm pa rg cd (hdG 64 cd)) (ext (updL L noH) (famA p k)) l = ext (updL L noH) (updL (thr p k nm pa rg cd (hdG 64 cd)) (famA p k)) l
  unfold thr
  simp only [a1p, a1v, ext]
  split
  . rfl
  split
  . rfl
  split
  . rfl
  rfl
 rw [e2] at hfc
 exact ⟨rfl, r, _, by rw [hs]; exact hfc, h⟩
end Go.Je
