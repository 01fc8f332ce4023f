/- Parts of the proof. -/
import Derived.Test.YtfhhgjbcenhdeaaGreatDoorF20
set_option linter.unusedSimpArgs false
set_option linter.unusedVariables false
namespace Go.Je
open Go Go.FM Go.Gv Go.Proofs
set_option maxRecDepth 100000
set_option maxHeartbeats 40000000
theorem b4l {nm : ByteArray} {pa rg : Int} {c : List Ins} (hc : CodeOk c) : PC Tryz.prog Gl 79 [.agg [.str nm, .int .i64 pa, .int .i64 rg, .list 5 (inss c)]] (.list 3 (bxV c (blks c))) := by
 have h1000 := hc.n1000
 have hs1 : (c.length : Int) + 1 <= 4611686018427387904 := by omega
 have hs2 : (c.length : Int) + 1 <= 281474976710656 := by omega
 have hs0 : (0 : Int) <= (c.length : Int) + 1 := by omega
 have wl1 : IntKind.wrap .i64 ((c.length : Int) + 1) = (c.length : Int) + 1 := by rw [IntKind.wrap_i64]; omega
 have tl1 : ((c.length : Int) + 1).toNat = c.length + 1 := by omega
 have hm0 : (a2h (List.replicate (c.length + 1) false)).modify 0 (fun r => FV.bool true :: r.tail) = a2h ((List.replicate (c.length + 1) false).set 0 true) := a3g _ 0 true (by simp)
 have hp1 : (0 : Int) < (c.length : Int) + 1 := by omega
 have hm1 : (a2h ((List.replicate (c.length + 1) false).set 0 true)).modify c.length (fun r => FV.bool true :: r.tail) = a2h (ldA c [0, (c.length : Int)] 0) := by
  rw [<- f2t]; exact a3g _ _ true (by simp)
 have hne := hc.ne
 have hne2 : ¬ c.length = 0 := by omega
 have hn1 : (c.length : Int) < (c.length : Int) + 1 := by omega
 have hs3 : (c.length : Int) <= 4611686018427387904 := by omega
 have hbk : bkF c c.length = blks c := rfl
 have hnb0 : nmF c c.length = (blks c).length := rfl
 have hs4 : 8 * (c.length : Int) <= 281474976710656 := by omega
 refine a3s (res := [.tmp 2]) 15 144 [31, 30, 29, 37, 89, 88, 103, 102, 101] (fun d ix => 0 :: d :: ix) (fn := Tryz.f79) (by kernel_rfl) (by rfl) (by rfl) (by rfl) (by simp) (by decide) ?_
 repeat' first
  | ((with_reducible refine a1a ?_); refine a1q (σ := {k : Nat // k <= c.length}) (fun y => [(5, .undef), (6, .undef)]) [30, 29] (fun y => [(31, .int .i64 (y.1 : Int))]) [[0, 6]] (fun y => [([0, 22], .cells 4 1 (a2h (ldA c [0, (c.length : Int)] y.1)))]) (fun y => noH) (fun y => c.length - y.1) ⟨0, by simp⟩ (gk3 (j := 0) [] (Bs.pc _) ?_ ?_ ?_ ?_ ?_ ?_ ?_) ?_; (iterate 7 (focus (first | rfl | (simp [LPXB, *, SIMB, hdN, injB, a0d, a0f, a1s, f2t]; done)))); rintro ⟨k, hk⟩; simp only [lpS, LPXB]; (try dsimp only at hk); rcases a0z hk with hlt | ⟨hlt, e⟩; rotate_left; subst e; have hle := e7i hc; have hlz := a8f c; rotate_left; have hll := c0d c [0, (c.length : Int)] k; have wk := wli hlt (by omega); have k1 : ((k : Int) + 1).toNat = k + 1 := (by omega); have k2 : (0 : Int) <= (k : Int) + 1 := (by omega); have k3 : (k : Int) + 1 < (c.length : Int) + 1 := (by omega); have k4 : (k : Int) < (c.length : Int) := (by omega); by_cases hJ : (c[k]'hlt).op = 16 \/ (c[k]'hlt).op = 17 \/ (c[k]'hlt).op = 45; have hs : ldA c [0, (c.length : Int)] (k + 1) = ((ldA c [0, (c.length : Int)] k).set ((c[k]'hlt).c).toNat true).set (k + 1) true := (by rw [ld_j hlt hJ]); obtain ⟨j0, j1, _⟩ := hc.tgt k hlt hJ; have j2 : (c[k]'hlt).c < (c.length : Int) + 1 := (by omega); have hb1 := a3g (ldA c [0, (c.length : Int)] k) ((c[k]'hlt).c).toNat true (by omega); have hb2 := a3g ((ldA c [0, (c.length : Int)] k).set ((c[k]'hlt).c).toNat true) (k + 1) true (by rw [List.length_set]; omega); rw [<- hs] at hb2; rotate_left; by_cases h30 : (c[k]'hlt).op = 30; have hs := ld_r (b := [0, (c.length : Int)]) hlt hJ h30; have hb1 := a3g (ldA c [0, (c.length : Int)] k) (k + 1) true (by omega); rw [<- hs] at hb1; rotate_left; have hs := ld_n (b := [0, (c.length : Int)]) hlt hJ h30; rotate_left)
  | ((with_reducible refine a0q ?_); refine a1b (⟨k + 1, by omega⟩) (gk3 (j := 0) [] (Bs.pc _) ?_ ?_ ?_ ?_ ?_ ?_ ?_) ?_; (iterate 7 (focus (first | rfl | (simp [LPXB, *, SIMB, hdN, injB, a0d, a0f, a1s]; done)))); (focus (dsimp only; omega)))
  | ((with_reducible refine a1a ?_); refine a1q (σ := {k : Nat // k <= c.length}) (fun y => [(7, .sl [0, 191] 3 0 (nmF c y.1)), (9, .int .i64 (stF c y.1 : Int)), (10, .int .i64 ((y.1 : Int) + 1)), (11, .undef)]) [] (fun y => []) [[0, 83], [0, 84], [0, 85]] (fun y => [([0, 191], .cells 87 3 (brs (bkF c y.1))), ([0, 58], .cells 3 1 (ints (nmL c c.length (stF c y.1))))]) (fun y => noH) (fun y => c.length - y.1) ⟨0, by simp⟩ (gk3 (j := 0) [([0, 191], none)] (Bs.pc _) ?_ ?_ ?_ ?_ ?_ ?_ ?_) ?_; (iterate 7 (focus (first | rfl | (simp [LPXB, *, SIMB, hdN, injB, a0d, a0f, a1s, e6u, c0g, d7e, bkF, nmF, stF]; done)))); rintro ⟨k, hk⟩; simp only [lpS, LPXB]; (try dsimp only at hk); have hnl := a6t c c.length (stF c k); have hnk := c6w c k; have hsk := b3u c k; have hbl : (brs (bkF c k)).length = nmF c k := (by rw [a2y]; rfl); rcases a0z hk with hlt | ⟨hlt, e⟩; rotate_left; subst e; have hse := c3p hc; rotate_left; have wk := wli hlt (by omega); have wk2 : IntKind.wrap .i64 ((k : Int) + 1 + 1) = (k : Int) + 1 + 1 := (by rw [IntKind.wrap_i64]; omega); have k1 : ((k : Int) + 1).toNat = k + 1 := (by omega); have k2 : (0 : Int) <= (k : Int) + 1 := (by omega); have k3 : (k : Int) + 1 < (c.length : Int) + 1 := (by omega); have k5 : (k : Int) + 1 <= (c.length : Int) := (by omega); have hll := a8f c; have hgl : (a2h (a3e c))[k + 1]? = some [.bool ((a3e c)[k + 1]'(by omega))] := a3z (by omega); by_cases hl : (a3e c)[k + 1]? = some true; have hlb : (a3e c)[k + 1]'(by omega) = true := (by rw [gE_ (by omega)] at hl; simpa using hl); rw [hlb] at hgl; have hby := c1a hl; have hsy := c1q hl; have hny : nmF c (k + 1) = nmF c k + 1 := (by rw [nmF, hby, List.length_append]; rfl); have s1 : (nmF c k + 1 + (nmF c k + 1) / 4 + 192) * 40 <= 140737488355328 := (by omega); have s2 : nmF c k <= 4611686018427387903 := (by omega); have htk2 : (brs (bkF c k)).take (nmF c k) = brs (bkF c k) := tL_ (by omega); rotate_left; have hlb : (a3e c)[k + 1]'(by omega) = false := (by rw [gE_ (by omega)] at hl; simpa using hl); rw [hlb] at hgl; have hbn := c1b hl; have hsn := b9h hl; have hnn : nmF c (k + 1) = nmF c k := (by rw [nmF, hbn]; rfl); rotate_left)
  | ((with_reducible refine a1a ?_); have hl' := hl; have hby' := hby; refine a1q (σ := {j : Nat // stF c k <= j /\ j <= k + 1}) (fun y => [(11, .int .i64 (y.1 : Int))]) [] (fun y => []) [] (fun y => [([0, 58], .cells 3 1 (ints (nmL c c.length y.1)))]) (fun y => noH) (fun y => k + 1 - y.1) ⟨stF c k, nr_ _, by omega⟩ (gk3 (j := 0) [] (Bs.pc _) ?_ ?_ ?_ ?_ ?_ ?_ ?_) ?_; (iterate 7 (focus (first | rfl | (simp [LPXB, *, SIMB, hdN, injB, a0d, a0f, a2m, a2y, a0n]; done)))); rintro ⟨j, hj1, hj2⟩; simp only [lpS, LPXB]; (try dsimp only at hj1 hj2); have hnl := a6t c c.length j; rcases a0z hj2 with hlj | ⟨hlj, e⟩; rotate_left; subst e; rotate_left; have wj := wli hlj (by omega); have hbs := (b5e (c := c) (j := j) k hj1 (by omega)).1; have hnj : nmF c j = nmF c k := (by rw [nmF, hbs]; rfl); have hms := f2b (c := c) (n := c.length) (k := j) (by omega); have j5 : (j : Int) < (k : Int) + 1 := (by omega); have j6 : (j : Int) < (c.length : Int) := (by omega); have hgn : (ints (nmL c c.length j))[j]? = some [.int .i64 ((nmL c c.length j)[j]'(by omega))] := c2o (by omega); have hmn := c2n (nmL c c.length j) j (nmF c k : Int) (by omega); rw [<- hnj, hms] at hmn; rw [hnj] at hmn; rotate_left)
  | ((with_reducible refine a0q ?_); refine a1b (⟨j + 1, by omega, by omega⟩) (gk3 (j := 0) [] (Bs.pc _) ?_ ?_ ?_ ?_ ?_ ?_ ?_) ?_; (iterate 7 (focus (first | rfl | (simp [LPXB, *, SIMB, hdN, injB, a0d, a0f, a2m, a2y, a0n]; done)))); (focus (dsimp only; omega)))
  | ((with_reducible refine a0q ?_); refine a1b (⟨k + 1, by omega⟩) (gk3 (j := 0) [([0, 191], some [0, 85])] (Bs.pc _) ?_ ?_ ?_ ?_ ?_ ?_ ?_) ?_; (iterate 7 (focus (first | rfl | (simp [LPXB, *, SIMB, hdN, injB, a0d, a0f, a2m, a2y, a0n, b7d, b7c, bRow]; done)))); (focus (dsimp only; omega)))
  | ((with_reducible refine a0q ?_); refine a1b (⟨k + 1, by omega⟩) (gk3 (j := 0) [] (Bs.pc _) ?_ ?_ ?_ ?_ ?_ ?_ ?_) ?_; (iterate 7 (focus (first | rfl | (simp [LPXB, *, SIMB, hdN, injB, a0d, a0f, a2m, a2y, a0n]; done)))); (focus (dsimp only; omega)))
  | ((with_reducible refine a1a ?_); refine a1q (σ := {j : Nat // j <= (blks c).length}) (fun y => [(12, .undef), (14, .undef)]) [88] (fun y => [(89, .int .i64 (y.1 : Int))]) [] (fun y => [([0, 191], .cells 87 3 (bmx c y.1))]) (fun y => noH) (fun y => (blks c).length - y.1) ⟨0, by simp⟩ (gk3 (j := 0) [] (Bs.pc _) ?_ ?_ ?_ ?_ ?_ ?_ ?_) ?_; (iterate 7 (focus (first | rfl | (simp [LPXB, *, SIMB, hdN, injB, a0d, a0f, a2m, a2y, a0n, b2e, f9m, d7f]; done)))); rintro ⟨j, hj⟩; simp only [lpS, LPXB]; (try dsimp only at hj); have hbm := d7f (c := c) (j := j); rcases a0z hj with hlt | ⟨hlt, e⟩; rotate_left; subst e; have hbe := e9d c; have hbl2 := a2x c (blks c); have htk : (bxV c (blks c)).take (blks c).length = bxV c (blks c) := tL_ (by rw [a2x]; exact nr_ _); have hnb := a2q c (blks c); rotate_left; have wj := wli hlt (by omega); obtain ⟨hB, hBl⟩ := a9c hlt; have hBlt := hB.lt; have hjj := f9l hlt; have hat := d7h hlt ((blks c)[j]'hlt) .nils; obtain ⟨e, he⟩ : ∃ e, ((blks c)[j]'hlt).2 = e + 1 := ⟨((blks c)[j]'hlt).2 - 1, by omega⟩; have hle1 : e < c.length := (by omega); have we : IntKind.wrap .i64 (e : Int) = (e : Int) := (by rw [IntKind.wrap_i64]; omega); have hdl := c0m c e; have hh : hd c e < c.length := (by omega); have hnx := b5w c (hd c e); have hend := c6p (c := c) ((blks c)[j]'hlt); rw [he, Nat.add_sub_cancel] at hend; have hsj := f9n hlt; rotate_left)
  | ((with_reducible refine a1a ?_); refine a1q (σ := {q : Nat // q <= (nx c (hd c e)).length}) (fun y => [(14, .undef)]) [102, 101, 88, 89] (fun y => [(103, .int .i64 (y.1 : Int))]) [[0, 121], [0, 122]] (fun y => [([0, 191], .cells 87 3 (bmj c j ((blks c)[j]'hlt) (.sl [0, 190] 1 0 y.1))), ([0, 190], .cells 3 1 (ints (rawN c (hd c e) y.1)))]) (fun y => noH) (fun y => (nx c (hd c e)).length - y.1) ⟨0, by simp⟩ (gk3 (j := 0) [([0, 190], none)] (Bs.pc _) ?_ ?_ ?_ ?_ ?_ ?_ ?_) ?_; (iterate 7 (focus (first | rfl | (simp [LPXB, *, SIMB, hdN, injB, a0d, a0f, a2m, a2y, a0n, b2e, e3b, a2r, b5s, b6f, b1r, ren, inn, bk, inH]; done)))); rintro ⟨q, hq⟩; simp only [lpS, LPXB]; (try dsimp only at hq); have hrl := c6o hq; have htq : (rawN c (hd c e) q).take q = rawN c (hd c e) q := tL_ (by omega); have hat := d7h hlt ((blks c)[j]'hlt) (.sl [0, 190] 1 0 q); rcases a0z hq with hlq | ⟨hlq, e⟩; rotate_left; subst e; have hne4 : rawN c (hd c e) (nx c (hd c e)).length ≠ [] \/ True := .inr trivial; rotate_left; have wq := wli hlq (by omega); obtain ⟨v0, v1, _⟩ := a7y hc (gm_ hlq); have v2 : ((nx c (hd c e))[q]'hlq) < (c.length : Int) := (by omega); have hnl2 := a6t c c.length c.length; have hgm := e3e (c := c) (n := c.length) (k := c.length) v1 v1; have hgv : (nmL c c.length c.length)[(((nx c (hd c e))[q]'hlq)).toNat]'(by omega) = (nmF c (((nx c (hd c e))[q]'hlq)).toNat : Int) := (by rw [gE_ (by omega)] at hgm; exact sI_ hgm); have hrs := e3a hlq; have s1 : (q + 1 + (q + 1) / 4 + 192) * 8 <= 140737488355328 := (by omega); have s2 : q <= 4611686018427387903 := (by omega); rotate_left)
  | (with_reducible refine d7k (id := 38) [[0, 190]] 15 a0y (by kernel_rfl) fun K hK => ?_)
  | (refine d7l (j := 11) (e := 3) (x := .tmp 116) (y := .tmp 121) (t := 36) (tx := 36) (Aj := upd noH [0, 121] (.cells 3 1 [[.int .i64 (nmF c (((nx c (hd c e))[q]'hlq)).toNat : Int)]])) [0, 190] [0, 121] (.cells 3 1 (ints (rawN c (hd c e) q))) (.cells 3 1 [[.int .i64 (nmF c (((nx c (hd c e))[q]'hlq)).toNat : Int)]]) 1 (ints (rawN c (hd c e) q) ++ [[.int .i64 (nmF c (((nx c (hd c e))[q]'hlq)).toNat : Int)]]) (.sl [0, 122] 1 0 (q + 1)) (by decide) (by kernel_rfl) ?_ (by simp [a2d]) rfl (lbR rfl) ?_ (by kernel_rfl) ?_ ?_ ?_ (by decide) ?_ ?_ ?_ ?_; (focus (exact rfl)); (focus (first | rfl | simp)); (iterate 5 (focus (first | rfl | simp [*, SIMB, rmvs, rmv, a5p]))); (focus (simp [*, -List.all_flatten, -List.all_eq_true, DEFB, LENB, e4e, asR, a1w, a0d, a0f, rmvs, rmv, a5p, FV.cellV, a2g, bRow, b1r, d7g, a0n, a2f, a3x])))
  | ((with_reducible refine cgB ?_); refine a4t (d1o (l := [0, 190]) (s := rawN c (hd c e) (nx c (hd c e)).length) hrl ?_ (by omega)) ?_; (focus (simp [HPXB]; done)))
  | ((with_reducible refine cgB ?_); refine a4t (b7z (l := [0, 190]) (s := srt (rawN c (hd c e) (nx c (hd c e)).length)) (by rw [a7h]; exact hrl) ?_ (by omega)) ?_; (focus (simp [HPXB]; done)))
  | ((with_reducible refine a0q ?_); refine a1b (⟨q + 1, by omega⟩) (gk3 (j := 0) [([0, 190], some [0, 122])] (Bs.pc _) ?_ ?_ ?_ ?_ ?_ ?_ ?_) ?_; (iterate 7 (focus (first | rfl | (simp [LPXB, *, SIMB, hdN, injB, a0d, a0f, a2m, a2y, a0n, a4c, a6n, a2r, a4y, a2f, b5s, b6f, b1r, ren, inn, bk, inH]; done)))); (focus (dsimp only; omega)))
  | ((with_reducible refine a0q ?_); refine a1b (⟨j + 1, by omega⟩) (Gk.trans (gk3 (j := 0) [] (Bs.pc _) ?_ ?_ ?_ ?_ ?_ ?_ ?_) (f3h [0, 190] 3 1 (ints (nxB c ((blks c)[j]'hlt) ++ List.replicate ((nx c (hd c e)).length - (nxB c ((blks c)[j]'hlt)).length) 0)) (fun _ h => h) (by simp [*, SIMB, a0d, a0f, a2m, a2y, a0n, b6c, d5m, a0a, b2e, b5s, b6f, b1r, ren, inn, bk, inH]) (by simp [*, SIMB, a0d, a0f, a2m, a2y, a0n, b6c, d5m, a0a, b2e, b5s, b6f, b1r, ren, inn, bk, inH]))) ?_; (iterate 7 (focus (first | rfl | (simp [LPXB, *, SIMB, hdN, injB, fz, fzs, fzss, fzO, fzT, fze, a7n, b3f, b1a, c0p, b4z, a0d, a0f, a2m, a2y, a0n, b6c, d5m, a0a, b2e, b5s, b6f, b1r, ren, inn, bk, inH]; done)))); (focus (dsimp only; omega)))
  | with_reducible first | refine a2j (id := 34) 12 a0y (by kernel_rfl) fun K hK => ?_ | refine stp ?_ | refine stpK ?_; intro K hK | refine stpC ?_; intro T E hT hE | refine stp2 ?_ ?_ <;> intro h | refine a0g rfl ?_ | refine a1e (b7x hc hh) (by simp [nls, nl, *, NLXB]) ?_ | refine hpc (b7x hc hh) (by simp [nls, nl, *, NLXB]) ?_ | refine a1e (c5x hc hle1) (by simp [nls, nl, *, NLXB]) ?_ | refine hpc (c5x hc hle1) (by simp [nls, nl, *, NLXB]) ?_ | refine a0j rfl (lbR rfl) a0i ?_ | refine a0j rfl (lbR rfl) (a0h (by simp [HPXB, a1w, ext, upd, *])) ?_ | refine a1g (by decide) (by kernel_rfl) ?_ | refine a0o (by decide) ?_ | refine Kont.go hK ?_; clear hK K | refine KT.go hT ?_; clear hT hE T E | refine KT.go hE ?_; clear hT hE T E
  | simp [*, -List.all_flatten, -List.all_eq_true, DEFB, LENB, asR, a1w, a0d, a4s, a3u, a0f, a1s, a4k, a6m, b6m, Ins.row, bRow, b1r, d7g, e4e, b5m, a7h, rmvs, rmv, a5p, FV.cellV, a2g, a0a]
 all_goals first
  | (exfalso; omega)
  | trace_state
theorem e2t {c : List Ins} (hc : CodeOk c) : ∀ (m : Nat) (S : DS) (b : Int), DSok c S -> S.l.count false <= m -> 0 <= b -> b < ((blks c).length : Int) -> ¬ isM S.l b -> FC Tryz.prog Gl 135 [.int .i64 b, .ptr [1, 4] 1 0 0, .ptr [1, 3] 1 0 0, .ptr [1, 6] 1 0 0, .ptr [1, 5] 1 0 0] S.H (.tup []) (b4e c m S b).H
 | 0, S, b, h, hm, h0, h1, hb => by
   have := c2f h.len h0 h1 hb
   omega
 | m + 1, S, b, h, hm, h0, h1, hb => e5d hc (e2t hc m) rfl h hm h0 h1 hb
def ordH (nm : ByteArray) (pa rg : Int) (c : List Ins) : Heap := HP [([1, 1], .cells 35 4 [[.str nm, .int .i64 pa, .int .i64 rg, .list 5 (inss c)]]), ([1, 3], .cells 84 1 [[.list 3 (bxV c (blks c))]]), ([1, 14], .cells 4 1 (a2h (List.replicate (blks c).length false))), ([1, 4], .cells 37 1 [[.sl [1, 14] 1 0 (blks c).length]]), ([1, 5], .cells 36 1 [[.nils]]), ([1, 6], .cells 174 1 [[cloS]])] noH noH
def ordS (nm : ByteArray) (pa rg : Int) (c : List Ins) : DS := ⟨List.replicate (blks c).length false, [], none, ordH nm pa rg c⟩
theorem d3k (nm : ByteArray) (pa rg : Int) (c : List Ins) : DSok c (ordS nm pa rg c) := by
 refine ⟨by simp [ordS], ?_, ?_, ?_, ?_, ?_, fun _ => rfl, fun k hk => (by cases hk), fun k _ r => ?_, by simp [ordS]⟩
 all_goals simp [ordS, ordH, onV, a1k, a1d, b0u, a3t, b7h, a1v, a1p, b0g, a8b, a1w]
 all_goals (repeat rw [if_neg fun h => by have := h.1; omega])
theorem b5d {c : List Ins} (hc : CodeOk c) : 0 < (blks c).length := by
 have := e6g hc .zero
 omega
theorem e5m {nm : ByteArray} {pa rg : Int} {c : List Ins} (hc : CodeOk c) : ∃ ord, e2d c ord /\ ord.length <= 1000 /\ PC Tryz.prog Gl 82 [.agg [.str nm, .int .i64 pa, .int .i64 rg, .list 5 (inss c)]] (.list 1 (ints ord)) := by
 have hpos := b5d hc
 have hbl := b3m c hc
 have hnm0 : ¬ isM (ordS nm pa rg c).l 0 := fun h => b1j _ _ h
 have hD := did hc (blks c).length (ordS nm pa rg c) 0 (d3k nm pa rg c) (by simp [ordS]) (by omega) (by omega) hnm0
 have hord := e8m hc hD (fun v h => b1j _ v h) rfl
 have h0in : (0 : Int) ∈ (b4e c (blks c).length (ordS nm pa rg c) 0).od := (hD.od 0).2 (.inr ⟨hD.mb, hnm0⟩)
 have hOK := hD.ok
 have hsz := hOK.sz
 refine ⟨(b4e c (blks c).length (ordS nm pa rg c) 0).od.reverse, hord, by simp; omega, ?_⟩
 clear hord hD
 obtain ⟨T, hT⟩ : ∃ T, b4e c (blks c).length (ordS nm pa rg c) 0 = T := ⟨_, rfl⟩
 rw [hT] at h0in hOK hsz ⊢
 have hodn : T.od ≠ [] := fun e => by rw [e] at h0in; cases h0in
 obtain ⟨t1, t3, t4, t14, t6, t5, tn, to, tf, tz⟩ := id hOK
 obtain ⟨k, hk⟩ : ∃ k, T.on = some k := by
  cases h : T.on with
  | none => exact absurd (tn h) hodn
  | some k => exact ⟨k, rfl⟩
 rw [hk] at t5
 have tq := (to k hk).1
 have hnb0 : ¬ (blks c).length = 0 := by omega
 have hs1 : ((blks c).length : Int) <= 4611686018427387904 := by omega
 have hs2 : ((blks c).length : Int) <= 281474976710656 := by omega
 have htq : (ints T.od.reverse).take T.od.length = ints T.od.reverse := tL_ (by rw [a0n, List.length_reverse]; exact nr_ _)
 refine a3s (res := [.tmp 2]) 7 21 [] (fun d ix => 1 :: d :: ix) (fn := Tryz.f82) (by kernel_rfl) (by rfl) (by rfl) (by rfl) (by simp) (by decide) ?_
 repeat' first
  | ((with_reducible refine cgB ?_); refine a4t (e2t hc (blks c).length (ordS nm pa rg c) 0 (d3k nm pa rg c) (by simp [ordS]) (by omega) (by omega) hnm0) ?_)
  | ((with_reducible refine cgB ?_); refine a4t (d1p (l := [1, 100 + k, 33]) (s := T.od) (T := 3) rfl ?_ hodn (by omega)) ?_; (focus (simp [*]; done)))
  | with_reducible first | refine stp ?_ | refine stpK ?_; intro K hK | refine stpC ?_; intro T E hT hE | refine stp2 ?_ ?_ <;> intro h | refine a0g rfl ?_ | refine a1e (b4l hc) (by simp [nls, nl, *, NLXB]) ?_ | refine hpc (b4l hc) (by simp [nls, nl, *, NLXB]) ?_ | refine a0j rfl (lbR rfl) a0i ?_ | refine a0j rfl (lbR rfl) (a0h (by simp [HPXB, a1w, ext, upd, *])) ?_ | refine a1g (by decide) (by kernel_rfl) ?_ | refine a0o (by decide) ?_ | refine Kont.go hK ?_; clear hK K | refine KT.go hT ?_; clear hT hE T E | refine KT.go hE ?_; clear hT hE T E
  | simp [*, -List.all_flatten, -List.all_eq_true, DEFB, LENB, asR, a1w, onV, a1s, a0a, upd, a2x, List.length_reverse]
theorem f6f {p : Pg} {f i : Nat} (hf : f < p.funcs.length) (hi : i < p.funcs[f].code.length) (h1 : p.funcs.length <= 2000000) (h2 : p.funcs[f].code.length <= 2000000) : PC Tryz.prog Gl 163 [.agg [.list 4 (fns p.funcs), .list 2 (gbs p.globals), .list 1 (lays p.layouts), .int .i64 p.main], .int .i64 f, .int .i64 i] (.tup [.agg [.int .i64 p.funcs[f].code[i].op, .int .i64 p.funcs[f].code[i].a, .int .i64 p.funcs[f].code[i].b, .int .i64 p.funcs[f].code[i].c, .int .i64 p.funcs[f].code[i].d], .bool true]) := by
 have w1 : IntKind.wrap .i64 ((p.funcs.length : Int) - 1) = (p.funcs.length : Int) - 1 := by rw [IntKind.wrap_i64]; omega
 have w2 : IntKind.wrap .i64 ((p.funcs[f].code.length : Int) - 1) = (p.funcs[f].code.length : Int) - 1 := by rw [IntKind.wrap_i64]; omega
 have l1 : (f : Int) <= (p.funcs.length : Int) - 1 := by omega
 have l2 : (i : Int) <= (p.funcs[f].code.length : Int) - 1 := by omega
 refine a3s (res := [.cell 6 42, .tmp 7]) 8 38 [] (fun d ix => 0 :: d :: ix) (fn := Tryz.f163) (by kernel_rfl) (by rfl) (by rfl) (by rfl) (by simp) (by decide) ?_
 repeat' first
  | with_reducible first | refine stp ?_ | refine stpK ?_; intro K hK | refine stpC ?_; intro T E hT hE | refine stp2 ?_ ?_ <;> intro h | refine a0g rfl ?_ | refine a1e (c31 _ _ _) (by simp [nls, nl, *, NLXB]) ?_ | refine hpc (c31 _ _ _) (by simp [nls, nl, *, NLXB]) ?_ | refine a0j rfl (lbR rfl) a0i ?_ | refine a0j rfl (lbR rfl) (a0h (by simp [HPXB, ext, upd, *])) ?_ | refine a1g (by decide) (by kernel_rfl) ?_ | refine a0o (by decide) ?_ | refine Kont.go hK ?_; clear hK K | refine KT.go hT ?_; clear hT hE T E | refine KT.go hE ?_; clear hT hE T E
  | simp [*, -List.all_flatten, -List.all_eq_true, DEFB, LENB]
theorem t_at {p : Pg} {f i : Nat} (hf : f < p.funcs.length) (hi : i < p.funcs[f].code.length) (h1 : p.funcs.length <= 2000000) (h2 : p.funcs[f].code.length <= 2000000) {x : Ins} (hx : p.funcs[f].code[i] = x) : PC Tryz.prog Gl 163 [.agg [.list 4 (fns p.funcs), .list 2 (gbs p.globals), .list 1 (lays p.layouts), .int .i64 p.main], .int .i64 f, .int .i64 i] (.tup [.agg [.int .i64 x.op, .int .i64 x.a, .int .i64 x.b, .int .i64 x.c, .int .i64 x.d], .bool true]) := by
 subst hx
 exact f6f hf hi h1 h2
theorem b7w (x : Ins) : PC Tryz.prog Gl 80 [.agg [.int .i64 x.op, .int .i64 x.a, .int .i64 x.b, .int .i64 x.c, .int .i64 x.d]] (.bool (lkO x.op)) := by
 refine a3s (res := [.tmp 2]) 3 11 [] (fun d ix => 0 :: d :: ix) (fn := Tryz.f80) (by kernel_rfl) (by rfl) (by rfl) (by rfl) (by simp) (by decide) ?_
 repeat' first
  | with_reducible first | refine stp ?_ | refine stpK ?_; intro K hK | refine stpC ?_; intro T E hT hE | refine stp2 ?_ ?_ <;> intro h | refine a0g rfl ?_ | refine a0j rfl (lbR rfl) a0i ?_ | refine a0j rfl (lbR rfl) (a0h (by simp [HPXB, ext, upd, *])) ?_ | refine a1g (by decide) (by kernel_rfl) ?_ | refine a0o (by decide) ?_ | refine Kont.go hK ?_; clear hK K | refine KT.go hT ?_; clear hT hE T E | refine KT.go hE ?_; clear hT hE T E
  | simp [*, -List.all_flatten, -List.all_eq_true, DEFB, LENB, lkO]
def ixI (l : List Int) (r : Int) : Int := if r ∈ l then (l.idxOf r : Int) else -1
theorem f2y {l : List Int} {r : Int} (h : r ∉ l) : ixI l r = -1 := if_neg h
theorem f3a {l : List Int} {k : Nat} (h : k < l.length) (hn : l[k] ∉ l.take k) : ixI l l[k] = (k : Int) := by
 unfold ixI
 rw [if_pos (gm_ h)]
 have h1 := List.idxOf_append (l₁ := l.take k) (l₂ := l.drop k) (a := l[k])
 rw [List.take_append_drop, if_neg hn, List.drop_eq_getElem_cons h, List.idxOf_cons_self, List.length_take] at h1
 rw [h1]; omega
theorem f2z (l : List Int) (r : Int) : decide (0 <= ixI l r) = decide (r ∈ l) := by
 by_cases h : r ∈ l
 . simp [ixI, h]
 . simp [ixI, h]
theorem c3l {l : List Int} {k : Nat} {r : Int} (h : k < l.length) (hn : r ∉ l.take k) (e : l[k] ≠ r) : r ∉ l.take (k + 1) := by
 rw [List.take_succ_eq_append_getElem h, List.mem_append, List.mem_singleton]
 rintro (h1 | h1)
 . exact hn h1
 . exact e h1.symm
theorem d1s {l : List Int} {r : Int} (hl : l.length <= 1000000000) : PC Tryz.prog Gl 138 [.list 1 (ints l), .int .i64 r] (.int .i64 (ixI l r)) := by
 refine a3s (res := [.tmp 4]) 6 19 [8, 7] (fun d ix => 0 :: d :: ix) (fn := Tryz.f138) (by kernel_rfl) (by rfl) (by rfl) (by rfl) (by simp) (by decide) ?_
 repeat' first
  | ((with_reducible refine a1a ?_); refine a1q (σ := {k : Nat // k <= l.length /\ r ∉ l.take k}) (fun y => [(5, .undef)]) [7] (fun y => [(8, .int .i64 (y.1 : Int))]) [] (fun y => []) (fun y => noH) (fun y => l.length - y.1) ⟨0, by simp, by simp⟩ (gk3 (j := 0) [] (Bs.pc _) ?_ ?_ ?_ ?_ ?_ ?_ ?_) ?_; (iterate 7 (focus (first | rfl | (simp [LPXB, *, SIMB, hdN, injB]; done)))); rintro ⟨k, hk, hn⟩; simp only [lpS, LPXB]; (try dsimp only at hk hn); rcases a0z hk with hlt | ⟨hlt, e⟩; rotate_left; subst e; have hno : ixI l r = -1 := f2y (by simpa using hn); rotate_left; have wi := wli hlt (by omega); by_cases he : l[k] = r; subst he; have hix := f3a hlt hn; rotate_left; have hne : ¬ r = l[k] := Ne.symm he; have hn' := c3l hlt hn he; rotate_left)
  | ((with_reducible refine a0q ?_); refine a1b (⟨k + 1, by omega, hn'⟩) (gk3 (j := 0) [] (Bs.pc _) ?_ ?_ ?_ ?_ ?_ ?_ ?_) ?_; (iterate 7 (focus (first | rfl | (simp [LPXB, *, SIMB, hdN, injB]; done)))); (focus (dsimp only; omega)))
  | with_reducible first | refine stp ?_ | refine stpK ?_; intro K hK | refine stpC ?_; intro T E hT hE | refine stp2 ?_ ?_ <;> intro h | refine a0g rfl ?_ | refine a0j rfl (lbR rfl) a0i ?_ | refine a0j rfl (lbR rfl) (a0h (by simp [HPXB, ext, upd, *])) ?_ | refine a1g (by decide) (by kernel_rfl) ?_ | refine a0o (by decide) ?_ | refine Kont.go hK ?_; clear hK K | refine KT.go hT ?_; clear hT hE T E | refine KT.go hE ?_; clear hT hE T E
  | simp [*, -List.all_flatten, -List.all_eq_true, DEFB, LENB, asR, a1w]
theorem c6b {l : List Int} {r : Int} (hl : l.length <= 1000000000) : PC Tryz.prog Gl 84 [.list 1 (ints l), .int .i64 r] (.bool (decide (r ∈ l))) := by
 refine a3s (res := [.tmp 4]) 5 9 [] (fun d ix => 0 :: d :: ix) (fn := Tryz.f84) (by kernel_rfl) (by rfl) (by rfl) (by rfl) (by simp) (by decide) ?_
 repeat' first
  | with_reducible first | refine stp ?_ | refine stpK ?_; intro K hK | refine stpC ?_; intro T E hT hE | refine stp2 ?_ ?_ <;> intro h | refine a0g rfl ?_ | refine a1e (d1s hl) (by simp [nls, nl, *, NLXB]) ?_ | refine hpc (d1s hl) (by simp [nls, nl, *, NLXB]) ?_ | refine a0j rfl (lbR rfl) a0i ?_ | refine a0j rfl (lbR rfl) (a0h (by simp [HPXB, ext, upd, *])) ?_ | refine a1g (by decide) (by kernel_rfl) ?_ | refine a0o (by decide) ?_ | refine Kont.go hK ?_; clear hK K | refine KT.go hT ?_; clear hT hE T E | refine KT.go hE ?_; clear hT hE T E
  | simp [*, -List.all_flatten, -List.all_eq_true, DEFB, LENB, asR, a1w, f2z]
end Go.Je
namespace Go.Je
open Go Go.FM Go.Gv Go.Proofs
set_option maxRecDepth 100000
set_option maxHeartbeats 40000000
open Classical in
noncomputable def rK (c : List Ins) (k : Nat) : List Bool := (List.range c.length).map fun i => decide (Rc c (if i < k then hd c i else i))
theorem c6q (c : List Ins) (k : Nat) : (rK c k).length = c.length := by simp [rK]
theorem rK_0 (c : List Ins) : rK c 0 = rcL c := by
 unfold rK rcL
 refine List.map_congr_left fun i _ => decide_eq_decide.2 ?_
 rw [if_neg (by omega)]
theorem f1u (c : List Ins) : rK c c.length = a4h c := by
 unfold rK a4h
 refine List.map_congr_left fun i hi => ?_
 rw [List.mem_range] at hi
 simp [hi]
theorem d3c {c : List Ins} {k i : Nat} (h : i < (rK c k).length) : (rK c k)[i] = true ↔ Rc c (if i < k then hd c i else i) := by simp [rK]
theorem d3b {a b : List Bool} (hl : a.length = b.length) (h : ∀ i (h1 : i < a.length) (h2 : i < b.length), a[i] = true ↔ b[i] = true) : a = b := List.ext_getElem hl fun i h1 h2 => Bool.eq_iff_iff.2 (h i h1 h2)
theorem rK_s {c : List Ins} (hc : CodeOk c) {k : Nat} (hk : k < c.length) {b : Bool} (hb : b = true ↔ Rc c (hd c k)) : (rK c k).set k b = rK c (k + 1) := by
 refine d3b (by simp [c6q]) fun i h1 h2 => ?_
 rw [d3c, List.getElem_set]
 split
 . rename_i e; subst e
   rw [if_pos (by omega)]; exact hb
 . rename_i e
   rw [d3c]
   by_cases e2 : i < k
   . rw [if_pos e2, if_pos (by omega)]
   . rw [if_neg e2, if_neg (by omega)]
theorem f7a {c : List Ins} {k : Nat} (hk : k < c.length) (e : c[k].op ≠ 51) : rK c (k + 1) = rK c k := by
 refine d3b (by simp [c6q]) fun i h1 h2 => ?_
 rw [d3c, d3c]
 by_cases e2 : i < k
 . rw [if_pos e2, if_pos (by omega)]
 . rw [if_neg e2]
   split
   . have : i = k := by omega
     subst this
     rw [a6y hk e]
   . rfl
theorem f7b {c : List Ins} (hc : CodeOk c) {k : Nat} (hk : k < c.length) : ∃ h : hd c k < (rK c k).length, ((rK c k)[hd c k] = true ↔ Rc c (hd c k)) := by
 have h1 := c0m c k
 refine ⟨by rw [c6q]; omega, ?_⟩
 rw [d3c]
 have : hd c (hd c k) = hd c k := a6y (by omega) (d5a hc k hk (by omega))
 split
 . rw [this]
 . rfl
theorem c5p (B : Heap) : ∀ L1 L2 : List (FM.Loc × FO), updL L1 (updL L2 B) = updL (L1 ++ L2) B
 | [], _ => rfl
 | (l, o) :: r, L2 => by
   show upd (updL r (updL L2 B)) l o = upd (updL (r ++ L2) B) l o
   rw [c5p B r L2]
theorem e2a {P : Program} {c : Cfg} {ops : Array Oper} {o : Oper} {rest : List Oper} {K : Fs -> Prop} {s : Fs} {f : FuncId} {A : List FV} {r : FV} {L1 L : List (FM.Loc × FO)} {B Af Af' : Heap} (hs : s.H = HP L B Af) (hfc : FC P c.G f A (HP [] (updL L B) Af) r (HP L1 (updL L B) Af')) (h : StK P c ops rest K (putD c o r { s with H := HP (L1 ++ L) B Af' })) : b0z P c ops o rest K s f true A := by
 refine a7a hs hfc ?_
 have e : HP L1 (updL L B) Af' = HP (L1 ++ L) B Af' := by unfold HP; rw [c5p]
 rw [e]; exact h
theorem f2c (nm : ByteArray) (pa rg : Int) (c : List Ins) (U : FM.Loc -> Prop) : a2u U [[.str nm, .int .i64 pa, .int .i64 rg, .list 5 (inss c)]] := ⟨⟨trivial, trivial, trivial, a0b c, trivial⟩, trivial⟩
theorem c5pc : Clo (ext noH noH) := fun _ _ h => (by cases h)
theorem l5pc : ∀ l, (fun _ : FM.Loc => False) l -> ext noH noH l ≠ none := fun _ h => h.elim
theorem e9c {k : Nat} {r : List Nat} {T : TypeId} {sz : Nat} {xs : List (List FV)} (h : ∀ U, a2u U xs) (hk : 2 <= k) (hk2 : k ≠ 62) : BsV (updL [(k :: r, .cells T sz xs)] noH) := by
 refine ⟨fun q s hq => ?_, ?_, fun l o hl => ?_⟩
 . simp only [a1p, a1v, upd]
   rw [if_neg (by intro e; injection e; omega)]; rfl
 . simp only [a1p, a1v, upd]
   rw [if_neg (by intro e; injection e with e1 e2; exact hk2 e1.symm)]; rfl
 . simp only [a1p, a1v, upd] at hl
   split at hl
   . obtain rfl := sI_ hl
     exact h _
   . cases hl
theorem d1q {nm : ByteArray} {pa rg : Int} {c : List Ins} (hc : CodeOk c) : PC Tryz.prog Gl 78 [.agg [.str nm, .int .i64 pa, .int .i64 rg, .list 5 (inss c)]] (.list 1 (a2h (a4h c))) := by
 have h1000 := hc.n1000
 refine a3s (res := [.tmp 2]) 5 30 [9, 8] (fun d ix => 2 :: d :: ix) (fn := Tryz.f78) (by kernel_rfl) (by rfl) (by rfl) (by rfl) (by simp) (by decide) ?_
 repeat' first
  | ((with_reducible refine cgB ?_); refine e2a rfl (e5a hc (e9c (f2c _ _ _ _) (by decide) (by decide))) ?_)
  | ((with_reducible refine a1a ?_); refine a1q (σ := {k : Nat // k <= c.length}) (fun y => [(4, .undef)]) [8] (fun y => [(9, .int .i64 (y.1 : Int))]) [] (fun y => [([62], .cells 4 1 (a2h (rK c y.1)))]) (fun y => noH) (fun y => c.length - y.1) ⟨0, by simp⟩ (gk5S [] rfl c5pc l5pc ?_ ?_ ?_ ?_ ?_ ?_) ?_; (iterate 2 (focus (simp [LPXB, *, SIMB, a1l, a0w, a1w, a0d, a0f, rK_0]; done))); (focus (simp [injB, bk, LPXB]; done)); (iterate 3 (focus (simp [LPXB, *, SIMB, bk_n, bk_c, inH, a1l, a0w, a1w, a0d, a0f, rK_0]; done))); rintro ⟨k, hk⟩; simp only [lpS, LPXB]; (try dsimp only at hk); have hrl := c6q c k; rcases a0z hk with hlt | ⟨hlt, e⟩; rotate_left; subst e; have hend := f1u c; have htk : (a4h c).take c.length = a4h c := tL_ (by rw [a6i]; exact nr_ _); have hrl2 := a6i c; rotate_left; have wi := wli hlt (by omega); have hhl := c0m c k; have hhl2 : hd c k < c.length := (by omega); obtain ⟨hx, hb⟩ := f7b hc hlt; have hga : (a2h (rK c k))[hd c k]? = some [.bool ((rK c k)[hd c k]'hx)] := a3z hx; have hbm := a3g (rK c k) k ((rK c k)[hd c k]'hx) (by omega); rw [rK_s hc hlt hb] at hbm; by_cases o51 : (c[k]'hlt).op = 51; rotate_left; have hno := f7a hlt o51; rotate_left)
  | ((with_reducible refine a0q ?_); refine a1b (⟨k + 1, by omega⟩) (gk5S [] rfl c5pc l5pc ?_ ?_ ?_ ?_ ?_ ?_) ?_; (iterate 2 (focus (simp [LPXB, *, SIMB, a1l, a0w, a1w, a0d, a0f]; done))); (focus (simp [injB, bk, LPXB]; done)); (iterate 3 (focus (simp [LPXB, *, SIMB, bk_n, bk_c, inH, a1l, a0w, a1w, a0d, a0f]; done))); (focus (dsimp only; omega)))
  | with_reducible first | refine stp ?_ | refine stpK ?_; intro K hK | refine stpC ?_; intro T E hT hE | refine stp2 ?_ ?_ <;> intro h | refine a0g rfl ?_ | refine a1e (c5x hc hlt) (by simp [nls, nl, *, NLXB]) ?_ | refine hpc (c5x hc hlt) (by simp [nls, nl, *, NLXB]) ?_ | refine a0j rfl (lbR rfl) a0i ?_ | refine a0j rfl (lbR rfl) (a0h (by simp [HPXB, a1w, ext, upd, *])) ?_ | refine a1g (by decide) (by kernel_rfl) ?_ | refine a0o (by decide) ?_ | refine Kont.go hK ?_; clear hK K | refine KT.go hT ?_; clear hT hE T E | refine KT.go hE ?_; clear hT hE T E
  | simp [*, -List.all_flatten, -List.all_eq_true, DEFB, LENB, asR, a1w, a0d, a4s, a3u, a0f, a4k, a6m, b6m, Ins.row]
end Go.Je
namespace Go.Je
open Go Go.FM Go.Gv Go.Proofs
set_option maxRecDepth 100000
set_option maxHeartbeats 40000000
def f5d (L : List (FM.Loc × FO)) : Bool := L.all fun p => match p.2 with | .dead => false | _ => true
theorem BsC.of {L : List (FM.Loc × FO)} (hl : hdN 3 (L.map Prod.fst) = true) (ho : ninL (inH (HP L noH noH)) L) (hd : f5d L = true) : BsC (updL L noH) := by
 have hout : ∀ k r, k ≠ 3 -> updL L noH (k :: r) = none := fun k r hk => by
  rw [a5h fun p hp e => ?_]
  . rfl
  . obtain ⟨q, hq⟩ := a7m hl p.1 (List.mem_map.2 ⟨p, hp, rfl⟩)
    rw [e] at hq
    simp only [List.cons.injEq] at hq
    exact hk hq.1
 refine ⟨fun k r hk => hout k r (by omega), fun r => hout 91 r (by decide), fun r => hout 92 r (by decide), fun r => hout 93 r (by decide), fun l o h => ?_, fun l o h => ?_⟩
 . rcases a5z h with h | ⟨_, h⟩
   . exact a3k (fun q hq => hq) (a8o ho _ h)
   . cases h
 . rcases a5z h with h | ⟨_, h⟩
   . have := List.all_eq_true.1 hd _ h
     rintro rfl
     simp at this
   . cases h
end Go.Je
