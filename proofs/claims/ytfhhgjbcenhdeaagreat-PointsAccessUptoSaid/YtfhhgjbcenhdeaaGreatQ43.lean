/- Parts of the proof. -/
import Derived.Test.YtfhhgjbcenhdeaaGreatQ42
set_option linter.unusedSimpArgs false
set_option linter.unusedVariables false
namespace Go.Ge
open Go Go.FM Go.Gv Go.Proofs
set_option maxRecDepth 100000
set_option maxHeartbeats 40000000
theorem c9k {p : Pg} (hb : PgB p) (hv : a2v p = true) : PC Tryz.prog Gl 10 [.agg [.list 4 (fns p.funcs), .list 2 (gbs p.globals), .list 1 (lays p.layouts), .int .i64 p.main]] (.agg [.list 2 (sits (lfpP p).sites), .list 1 (lls (lfpP p).regs), .list 1 (lays (lfpP p).cells)]) := by
 have hval : PC Tryz.prog Gl 23 [.agg [.list 4 (fns p.funcs), .list 2 (gbs p.globals), .list 1 (lays p.layouts), .int .i64 p.main]] (.bool (a2v p)) := by rw [<- b0i]; exact c19 p hb.f hb.g hb.l hb.ll hb.c
 have hp := vOk hv
 have hsv := a2f hp
 have hnf := hp.nf
 have hE := (a5a hp).shp
 have h81 : ∀ (L : List (FM.Loc × FO)) (Y : Pts), inH (HP L noH (MN p Y)) [81] := fun L Y => a3o a6x
 have h83 : ∀ (L : List (FM.Loc × FO)) (Y : Pts) (f : Nat), f < Y.regs.length -> inH (HP L noH (MN p Y)) [83, f] := fun L Y f h => a3o (a8n h)
 have h84 : ∀ (L : List (FM.Loc × FO)) (Y : Pts), inH (HP L noH (MN p Y)) [84] := fun L Y => a3o a8m
 have h82 : ∀ (L : List (FM.Loc × FO)) (Y : Pts), inH (HP L noH (MN p Y)) [82] := fun L Y => a3o a8o
 refine a3d (res := [.cell 2 33]) 12 73 [30, 29, 28, 36, 35, 34, 59, 58, 57] (fun d ix => 7 :: d :: ix) (fn := Tryz.f10) (by kernel_rfl) (by rfl) (by rfl) (by rfl) (by simp) (by decide) ?_
 repeat' first
  | ((with_reducible refine cgH ?_); refine a4t rfl (b6q hp (BsS.of (by rfl) ?_)) ?_; (focus (first | rfl | (simp [ninL, ninO, a3p, nins, nin, a0f, a0h, a0a, a1g, a0b, a0c, a1z, mapO, a2h, a1y, a1c, a0v, hdN, *]; done))))
  | ((with_reducible refine a2c (id := 4) fun K hK => ?_); refine a1o 1 ?_)
  | ((with_reducible refine a1u ?_); refine a2n (σ := {f : Nat // f <= p.funcs.length}) (fun y => [(6, .undef), (7, .undef), (9, .undef)]) [29, 28] (fun y => [(30, .int .i64 (y.1 : Int))]) [[7, 1001], [7, 95]] (fun y => [([7, 4], .cells 33 3 [[.list 2 (sits (a0i p)), .sl [7, 1000] 1 0 y.1, .nils]]), ([7, 1000], .cells 24 1 (lls ((Z.regs.map (·.map Gv.srt)).take y.1)))]) (fun y => MN p Z) (fun y => p.funcs.length - y.1) ⟨0, by simp⟩ (gk3i (j := 7) [([7, 1000], none)] (bsMN hZ 7 (by decide)) ?_ ?_ ?_ ?_ ?_ ?_ ?_) ?_; (iterate 7 (focus (first | rfl | (simp [LPXB, *, SIMB, hdN, injB, a2d, a1q, a2b, hdN, a1c, a0v, a1y, a4p, a3l, a6x, a8o, a8n, a8m, a1j, a0y, a0z, a2k, a2l, a2m, anR, a3i, MG_t, MG_f, a2w, a0d, a0e, a0b, a0a, a1z, List.length_take, List.length_map, Nat.min_eq_left, a5g, a7t, a3e, asR, a2j, a4w, a4g, a7f, List.take_take, Nat.min_self, List.take_length, a1w, a1g, a6a, h81, List.take_zero, d3g]; done)))); rintro ⟨f, hf⟩; simp only [lpS, LPXB]; (try dsimp only at hf); rcases a1t hf with hlt | ⟨hlt, he⟩; rotate_left; subst f; have hfa : (Z.regs.map (·.map Gv.srt)).take p.funcs.length = (Z.regs.map (·.map Gv.srt)) := List.take_of_length_le (by rw [List.length_map]; omega); rotate_left; have wf := wli hlt (by omega); have hfY : f < Z.regs.length := (by omega); have hR1 : f < (rowR Z.regs).length := (by simpa [a1j] using hfY); have hYl := hZ.fn f hfY hlt; have hrr := hp.regs (List.getElem_mem hlt); have hn64 : (Z.regs[f]'hfY).length <= 64 := (by have := hrr.r64; omega); have hs := szn (n := f + 1) (k := 24) (by omega) (by decide); have hs2 : f + 1 <= 4611686018427387904 := (by omega); have hs3 : f <= 4611686018427387903 := (by omega); have hfm : min f Z.regs.length = f := (by omega); have els := e6c Z.regs hfY; generalize hnr : (Z.regs[f]'hfY).length = nr at hn64; clear hYl)
  | ((with_reducible refine a1u ?_); refine a2n (σ := {r : Nat // r <= nr}) (fun y => [(7, .sl [7, 1001] 1 0 y.1), (9, .undef)]) [35, 34, 30, 29, 28] (fun y => [(36, .int .i64 (y.1 : Int))]) [[7, 95]] (fun y => [([7, 1001], .cells 42 1 (lays (((Z.regs[f]'hfY).map Gv.srt).take y.1)))]) (fun y => MN p Z) (fun y => nr - y.1) ⟨0, by simp⟩ (gk3i (j := 7) [([7, 1001], none)] (bsMN hZ 7 (by decide)) ?_ ?_ ?_ ?_ ?_ ?_ ?_) ?_; (iterate 7 (focus (first | rfl | (simp [LPXB, *, SIMB, hdN, injB, a2d, a1q, a2b, hdN, a1c, a0v, a1y, a4p, a3l, a6x, a8o, a8n, a8m, a1j, a0y, a0z, a2k, a2l, a2m, anR, a3i, MG_t, MG_f, a2w, a0d, a0e, a0b, a0a, a1z, List.length_take, List.length_map, Nat.min_eq_left, a5g, a7t, a3e, asR, a2j, a4w, a4g, a7f, List.take_take, Nat.min_self, List.take_length, a1w, a1g, a6a, h81, h83, List.take_zero, a1b]; done)))); rintro ⟨r, hr⟩; simp only [lpS, LPXB]; (try dsimp only at hr); rcases a1t hr with hlr | ⟨hlr, he⟩; rotate_left; subst r; have hfull : (((Z.regs[f]'hfY).map Gv.srt)).take nr = ((Z.regs[f]'hfY).map Gv.srt) := List.take_of_length_le (by rw [List.length_map]; omega); rotate_left; have wr := wli hlr (by omega); have hrZ : r < (Z.regs[f]'hfY).length := (by omega); have hM2 : r < (rowM f (Z.regs[f]'hfY)).length := (by simpa [a0y] using hrZ); have hok := hZ.rs f hfY _ (List.getElem_mem hrZ); have hsl : (Gv.srt ((Z.regs[f]'hfY)[r]'hrZ)).length <= 64001 := (by rw [Gv.b4i]; have := b1m hok; omega); have hs := szn (n := r + 1) (k := 24) (by omega) (by decide); have hs2 : r + 1 <= 4611686018427387904 := (by omega); have hs3 : r <= 4611686018427387903 := (by omega); have hrm : min r (Z.regs[f]'hfY).length = r := (by omega); have ely := c7f (Z.regs[f]'hfY) hrZ)
  | ((with_reducible refine cgH ?_); refine b8f (c6b (nm := [7, 95]) ?_) ?_; (focus (simp [a2d, a4p, a2r, a2o, a3l]; done)))
  | ((with_reducible refine cgH ?_); refine b8f (b9r (l := [7, 95]) (k := [85, f, r]) (T := 54) ?_ (g4r hfY hrZ) hok.1 (fun x hx => by have := hok.2 x hx; omega) (by have := b1m hok; omega)) ?_; (focus (simp [a2d, a4p, a2r, a2o, a3l]; done)))
  | ((with_reducible refine a1p ?_); refine a2a (⟨r + 1, by omega⟩) (gk3i (j := 7) [] (bsMN hZ 7 (by decide)) ?_ ?_ ?_ ?_ ?_ ?_ ?_) ?_; (iterate 7 (focus (first | rfl | (simp [LPXB, *, SIMB, hdN, injB, a2d, a1q, a2b, hdN, a1c, a0v, a1y, a4p, a3l, a6x, a8o, a8n, a8m, a1j, a0y, a0z, a2k, a2l, a2m, anR, a3i, MG_t, MG_f, a2w, a0d, a0e, a0b, a0a, a1z, List.length_take, List.length_map, Nat.min_eq_left, a5g, a7t, a3e, asR, a2j, a4w, a4g, a7f, List.take_take, Nat.min_self, List.take_length, a1w, a1g, a6a, h81, h83, ely]; done)))); (focus (dsimp only; omega)))
  | ((with_reducible refine a1p ?_); refine a2a ⟨f + 1, by omega⟩ (Gk.trans (gk3i (j := 7) [([7, 1000], some [7, 51])] (bsMN hZ 7 (by decide)) ?_ ?_ ?_ ?_ ?_ ?_ ?_) (d4m (j := 7) [7, 1001] 42 1 (lays ((Z.regs[f]'hfY).map Gv.srt)) (bsMN hZ 7 (by decide)) (fun _ h => h.elim) (by rfl) (by simp [*, SIMB, a2d, a1q, a2b, hdN, a1c, a0v, a1y, a4p, a3l, a6x, a8o, a8n, a8m, a1j, a0y, a0z, a2k, a2l, a2m, anR, a3i, MG_t, MG_f, a2w, a0d, a0e, a0b, a0a, a1z, List.length_take, List.length_map, Nat.min_eq_left, a5g, a7t, a3e, asR, a2j, a4w, a4g, a7f, List.take_take, Nat.min_self, List.take_length, a1w, a1g, a6a]) (by simp [*, SIMB, a2d, a1q, a2b, hdN, a1c, a0v, a1y, a4p, a3l, a6x, a8o, a8n, a8m, a1j, a0y, a0z, a2k, a2l, a2m, anR, a3i, MG_t, MG_f, a2w, a0d, a0e, a0b, a0a, a1z, List.length_take, List.length_map, Nat.min_eq_left, a5g, a7t, a3e, asR, a2j, a4w, a4g, a7f, List.take_take, Nat.min_self, List.take_length, a1w, a1g, a6a]))) ?_; (iterate 7 (focus (first | rfl | (simp [LPXB, *, SIMB, hdN, injB, a2d, a1q, a2b, hdN, a1c, a0v, a1y, a4p, a3l, a6x, a8o, a8n, a8m, a1j, a0y, a0z, a2k, a2l, a2m, anR, a3i, MG_t, MG_f, a2w, a0d, a0e, a0b, a0a, a1z, List.length_take, List.length_map, Nat.min_eq_left, a5g, a7t, a3e, asR, a2j, a4w, a4g, a7f, List.take_take, Nat.min_self, List.take_length, a1w, a1g, a6a, h81, els, fz, fzs, fzss, fzO, fzT, fze, a3f, a5n, a5r, a7h, a6e]; done)))); (focus (dsimp only; omega)))
  | ((with_reducible refine a1u ?_); refine a2n (σ := {i : Nat // i <= (a0i p).length}) (fun y => [(11, .undef)]) [58, 57] (fun y => [(59, .int .i64 (y.1 : Int))]) [] (fun y => [([7, 4], .cells 33 3 [[.list 2 (sits (a0i p)), .sl [7, 1000] 1 0 p.funcs.length, .sl [7, 1002] 1 0 y.1]]), ([7, 1002], .cells 42 1 (lays ((Z.cells.map Gv.srt).take y.1)))]) (fun y => MN p Z) (fun y => (a0i p).length - y.1) ⟨0, by simp⟩ (gk3i (j := 7) [([7, 1002], none)] (bsMN hZ 7 (by decide)) ?_ ?_ ?_ ?_ ?_ ?_ ?_) ?_; (iterate 7 (focus (first | rfl | (simp [LPXB, *, SIMB, hdN, injB, a2d, a1q, a2b, hdN, a1c, a0v, a1y, a4p, a3l, a6x, a8o, a8n, a8m, a1j, a0y, a0z, a2k, a2l, a2m, anR, a3i, MG_t, MG_f, a2w, a0d, a0e, a0b, a0a, a1z, List.length_take, List.length_map, Nat.min_eq_left, a5g, a7t, a3e, asR, a2j, a4w, a4g, a7f, List.take_take, Nat.min_self, List.take_length, a1w, a1g, a6a, h81, h84, hfa, List.take_zero, a1b]; done)))); rintro ⟨i, hi⟩; simp only [lpS, LPXB]; (try dsimp only at hi); rcases a1t hi with hli | ⟨hli, he⟩; rotate_left; subst i; have hca : (Z.cells.map Gv.srt).take (a0i p).length = (Z.cells.map Gv.srt) := List.take_of_length_le (by rw [List.length_map]; omega); rotate_left; have wi := wli hli (by omega); have hiZ : i < Z.cells.length := (by omega); have hC2 : i < (rowC Z.cells).length := (by simpa [a0z] using hiZ); have hok := hZ.cs _ (List.getElem_mem hiZ); have hsl : (Gv.srt (Z.cells[i]'hiZ)).length <= 64001 := (by rw [Gv.b4i]; have := b1m hok; omega); have hs := szn (n := i + 1) (k := 24) (by omega) (by decide); have hs2 : i + 1 <= 4611686018427387904 := (by omega); have hs3 : i <= 4611686018427387903 := (by omega); have him : min i Z.cells.length = i := (by omega); have ely := c7f Z.cells hiZ)
  | (with_reducible refine c3o (id := 20) [[7, 1002]] 8 a0m (by kernel_rfl) fun K hK => ?_)
  | (refine c1u (j := 5) (e := 42) (x := .tmp 64) (y := .tmp 68) (t := 24) (tx := 24) (Aj := upd noH [7, 68] (.cells 42 1 [[.list 1 (ints (Gv.srt (Z.cells[i]'hiZ)))]])) [7, 1002] [7, 68] (.cells 42 1 (lays ((Z.cells.map Gv.srt).take i))) (.cells 42 1 [[.list 1 (ints (Gv.srt (Z.cells[i]'hiZ)))]]) 1 (lays ((Z.cells.map Gv.srt).take i) ++ [[.list 1 (ints (Gv.srt (Z.cells[i]'hiZ)))]]) (.sl [7, 69] 1 0 (i + 1)) (by decide) (by kernel_rfl) ?_ (by simp [a2z]) rfl (Nat.le_of_ble_eq_true rfl) ?_ (by kernel_rfl) ?_ ?_ ?_ (by decide) ?_ ?_ ?_ ?_; (focus (exact rfl)); (focus (first | rfl | simp)); (focus (first | rfl | simp [*, SIMB, rmvs, rmv, a3g])); (focus (first | rfl | simp [*, SIMB, rmvs, rmv, a3g])); (focus (first | rfl | simp [*, SIMB, rmvs, rmv, a3g])); (focus (first | rfl | simp [*, SIMB, rmvs, rmv, a3g])); (focus (first | rfl | simp [*, SIMB, rmvs, rmv, a3g])); (focus (simp [*, -List.all_flatten, -List.all_eq_true, DEFM, a2d, a1q, a2b, hdN, a1c, a0v, a1y, a4p, a3l, a6x, a8o, a8n, a8m, a1j, a0y, a0z, a2k, a2l, a2m, anR, a3i, MG_t, MG_f, a2w, a0d, a0e, a0b, a0a, a1z, List.length_take, List.length_map, Nat.min_eq_left, a5g, a7t, a3e, asR, a2j, a4w, a4g, a7f, List.take_take, Nat.min_self, List.take_length, a1w, a1g, a6a, rmvs, rmv, a3g, FV.cellV])))
  | ((with_reducible refine e8o (k := 4) 3 [7, 95] (.cells 54 1 [[.mp [86, i]]]) (by decide) (by kernel_rfl) ?_ (by kernel_rfl) ?_ ?_); (focus rfl); (focus (simp; done)))
  | ((with_reducible refine hclH ?_); refine hfc0 (fun H2 hs => b9r (l := [7, 95]) (k := [86, i]) (T := 54) (hs _ _ ?_) (hs _ _ ?_) hok.1 (fun x hx => by have := hok.2 x hx; omega) (by have := b1m hok; omega)) ?_; (focus (simp [upd]; done)); (focus (simp [upd, rmvs, rmv, g4q hiZ]; done)))
  | ((with_reducible refine hclH ?_); refine hfc1 [7, 95] (.cells 54 1 [[.mp [86, i]]]) (fun H2 _ h0 => c6b h0) ?_)
  | ((with_reducible refine a1p ?_); refine a2a (⟨i + 1, by omega⟩) (gk3i (j := 7) [([7, 1002], some [7, 69])] (bsMN hZ 7 (by decide)) ?_ ?_ ?_ ?_ ?_ ?_ ?_) ?_; (iterate 7 (focus (first | rfl | (simp [LPXB, *, SIMB, hdN, injB, a2d, a1q, a2b, hdN, a1c, a0v, a1y, a4p, a3l, a6x, a8o, a8n, a8m, a1j, a0y, a0z, a2k, a2l, a2m, anR, a3i, MG_t, MG_f, a2w, a0d, a0e, a0b, a0a, a1z, List.length_take, List.length_map, Nat.min_eq_left, a5g, a7t, a3e, asR, a2j, a4w, a4g, a7f, List.take_take, Nat.min_self, List.take_length, a1w, a1g, a6a, h81, h84, ely]; done)))); (focus (dsimp only; omega)))
  | ((with_reducible refine mdH ?_); refine a3j (by kernel_rfl) (fun d hd => ?_) rfl (e9t hp ?_ ?_ ?_) ?_; (focus (cases hd; exact Nat.le_of_ble_eq_true rfl)); (focus rfl); (focus (first | rfl | (simp [ninL, ninO, a3p, nins, nin, a0f, a0h, a0a, a1g, a0b, a0c, a1z, mapO, a2h, a1y, a1c, a0v, hdN, *]; done))); (focus (first | rfl | (simp [ninL, ninO, a3p, nins, nin, a0f, a0h, a0a, a1g, a0b, a0c, a1z, mapO, a2h, a1y, a1c, a0v, hdN, *]; done))); (rintro r' H' ⟨rfl, Z, rfl, hZ, hLs⟩); have hlf := c7c hv hLs; have hZr := hZ.rn; have hZc := hZ.cn; have hS1 : (a9e Z).sites = a0i p := hZ.sites; have hS2 : (a9e Z).regs = (Z.regs.map (·.map Gv.srt)) := rfl; have hS3 : (a9e Z).cells = Z.cells.map Gv.srt := rfl)
  | (with_reducible refine a5f ?_)
  | (with_reducible refine a6y ?_)
  | with_reducible refine stp ?_
  | (with_reducible refine stpK ?_; intro K hK)
  | (with_reducible refine stpC ?_; intro T E hT hE)
  | (with_reducible refine stp2 ?_ ?_ <;> intro h)
  | with_reducible first | refine a0p rfl ?_ | refine a1h hval (by simp [nls, nl, *, NLXB]) ?_ | refine hpc hval (by simp [nls, nl, *, NLXB]) ?_ | refine a1r rfl (Nat.le_of_ble_eq_true rfl) a0r ?_ | refine a1r rfl (Nat.le_of_ble_eq_true rfl) (a0q (by simp [HPXB, a4p, ext, upd, *])) ?_ | refine a1s (by decide) (by kernel_rfl) ?_ | refine a0x (by decide) ?_
  | (with_reducible refine Kont.go hK ?_; clear hK K)
  | ((with_reducible first | refine KT.go hT ?_ | refine KT.go hE ?_); clear hT hE T E)
  | simp [*, -List.all_flatten, -List.all_eq_true, DEFM, a2d, a1q, a2b, hdN, a1c, a0v, a1y, a4p, a3l, a6x, a8o, a8n, a8m, a1j, a0y, a0z, a2k, a2l, a2m, anR, a3i, MG_t, MG_f, a2w, a0d, a0e, a0b, a0a, a1z, List.length_take, List.length_map, Nat.min_eq_left, a5g, a7t, a3e, asR, a2j, a4w, a4g, a7f, List.take_take, Nat.min_self, List.take_length, a1w, a1g, a6a, rmvs, rmv, a3g, FV.cellV]
theorem d1c {p : Pg} (hb : PgB p) {x : Pts} (hx : PtB 2000000 x) (hv : a2v p = true) (d1 : ¬ x.sites = a0i p) : PC Tryz.prog Gl 14 [.agg [.list 4 (fns p.funcs), .list 2 (gbs p.globals), .list 1 (lays p.layouts), .int .i64 p.main], .agg [.list 2 (sits x.sites), .list 1 (lls x.regs), .list 1 (lays x.cells)]] (.bool (a2y p x)) := by
 have hsv := fun (hp : VOk p) => a2f hp
 have hval : PC Tryz.prog Gl 23 [.agg [.list 4 (fns p.funcs), .list 2 (gbs p.globals), .list 1 (lays p.layouts), .int .i64 p.main]] (.bool (a2v p)) := by rw [<- b0i]; exact c19 p hb.f hb.g hb.l hb.ll hb.c
 have hp := vOk hv
 have hs := a2f hp
 have hE := (a5a hp).shp
 have hEc := hE.cn
 have hEr := hE.rn
 have heq := b5x (a := x.sites) (b := a0i p) hx.s
 have hnf := hp.nf
 have d2' : ((x.regs.length : Int) = (p.funcs.length : Int)) = (x.regs.length = p.funcs.length) := propext (by omega)
 have d3' : ((x.cells.length : Int) = ((a0i p).length : Int)) = (x.cells.length = (a0i p).length) := propext (by omega)
 have hsb : a2y p x = false := by
  have : a8x p x = false := a7i fun h => d1 h.sites
  simp [a2y, this]
 refine a3d (res := [.tmp 4]) 13 114 [51, 50, 49, 69, 68, 67, 93, 92, 91] (fun d ix => 7 :: d :: ix) (fn := Tryz.f14) (by kernel_rfl) (by rfl) (by rfl) (by rfl) (by simp) (by decide) ?_
 repeat' first
  | ((with_reducible refine cgH ?_); refine a4t rfl (b6q hp (BsS.of (by rfl) ?_)) ?_; (focus (first | rfl | (simp [ninL, ninO, a3p, nins, nin, a0f, a0h, a0a, a1g, a0b, a0c, a1z, mapO, a2h, a1y, a1c, a0v, hdN, *]; done))))
  | with_reducible first | refine a0u (id := 4) 30 a0m (by kernel_rfl) fun K hK => ?_ | refine stp ?_
  | (with_reducible refine stpK ?_; intro K hK)
  | (with_reducible refine stpC ?_; intro T E hT hE)
  | (with_reducible refine stp2 ?_ ?_ <;> intro h)
  | with_reducible first | refine a0p rfl ?_ | refine a1h hval (by simp [nls, nl, *, NLXB]) ?_ | refine hpc hval (by simp [nls, nl, *, NLXB]) ?_ | refine a1h heq (by simp [nls, nl, *, NLXB]) ?_ | refine hpc heq (by simp [nls, nl, *, NLXB]) ?_ | refine a1r rfl (Nat.le_of_ble_eq_true rfl) a0r ?_ | refine a1r rfl (Nat.le_of_ble_eq_true rfl) (a0q (by simp [HPXB, a4p, a2b, ext, upd, *])) ?_ | refine a1s (by decide) (by kernel_rfl) ?_ | refine a0x (by decide) ?_
  | (with_reducible refine Kont.go hK ?_; clear hK K)
  | ((with_reducible first | refine KT.go hT ?_ | refine KT.go hE ?_); clear hT hE T E)
  | simp [*, -List.all_flatten, -List.all_eq_true, DEFM, a2d, a1q, a2b, hdN, a1c, a0v, a1y, a4p, a3l, a2w, a8f, a0d, a3a, a4w, a2j, a1w, a5l, a1z, a0a, a1g, a0b, a0e, a6x, a8o, a8n, a8m, a1j, a0y, a0z, a2k, a2l, a2m, anR, a3i, MG_t, MG_f, a6b, hsb]
theorem d1b {p : Pg} (hb : PgB p) {x : Pts} (hx : PtB 2000000 x) (hv : a2v p = true) (d1 : x.sites = a0i p) (d2 : ¬ x.regs.length = p.funcs.length) : PC Tryz.prog Gl 14 [.agg [.list 4 (fns p.funcs), .list 2 (gbs p.globals), .list 1 (lays p.layouts), .int .i64 p.main], .agg [.list 2 (sits x.sites), .list 1 (lls x.regs), .list 1 (lays x.cells)]] (.bool (a2y p x)) := by
 have hsv := fun (hp : VOk p) => a2f hp
 have hval : PC Tryz.prog Gl 23 [.agg [.list 4 (fns p.funcs), .list 2 (gbs p.globals), .list 1 (lays p.layouts), .int .i64 p.main]] (.bool (a2v p)) := by rw [<- b0i]; exact c19 p hb.f hb.g hb.l hb.ll hb.c
 have hp := vOk hv
 have hs := a2f hp
 have hE := (a5a hp).shp
 have hEc := hE.cn
 have hEr := hE.rn
 have heq := b5x (a := x.sites) (b := a0i p) hx.s
 have hnf := hp.nf
 rw [d1, show decide (a0i p = a0i p) = true from by simp] at heq
 have d2' : ((x.regs.length : Int) = (p.funcs.length : Int)) = (x.regs.length = p.funcs.length) := propext (by omega)
 have d3' : ((x.cells.length : Int) = ((a0i p).length : Int)) = (x.cells.length = (a0i p).length) := propext (by omega)
 have hsb : a2y p x = false := by
  have : a8x p x = false := a7i fun h => d2 h.rn
  simp [a2y, this]
 refine a3d (res := [.tmp 4]) 13 114 [51, 50, 49, 69, 68, 67, 93, 92, 91] (fun d ix => 7 :: d :: ix) (fn := Tryz.f14) (by kernel_rfl) (by rfl) (by rfl) (by rfl) (by simp) (by decide) ?_
 repeat' first
  | ((with_reducible refine cgH ?_); refine a4t rfl (b6q hp (BsS.of (by rfl) ?_)) ?_; (focus (first | rfl | (simp [ninL, ninO, a3p, nins, nin, a0f, a0h, a0a, a1g, a0b, a0c, a1z, mapO, a2h, a1y, a1c, a0v, hdN, *]; done))))
  | with_reducible first | refine a0u (id := 4) 30 a0m (by kernel_rfl) fun K hK => ?_ | refine stp ?_
  | (with_reducible refine stpK ?_; intro K hK)
  | (with_reducible refine stpC ?_; intro T E hT hE)
  | (with_reducible refine stp2 ?_ ?_ <;> intro h)
  | with_reducible first | refine a0p rfl ?_ | refine a1h hval (by simp [nls, nl, *, NLXB]) ?_ | refine hpc hval (by simp [nls, nl, *, NLXB]) ?_ | refine a1h heq (by simp [nls, nl, *, NLXB]) ?_ | refine hpc heq (by simp [nls, nl, *, NLXB]) ?_ | refine a1r rfl (Nat.le_of_ble_eq_true rfl) a0r ?_ | refine a1r rfl (Nat.le_of_ble_eq_true rfl) (a0q (by simp [HPXB, a4p, a2b, ext, upd, *])) ?_ | refine a1s (by decide) (by kernel_rfl) ?_ | refine a0x (by decide) ?_
  | (with_reducible refine Kont.go hK ?_; clear hK K)
  | ((with_reducible first | refine KT.go hT ?_ | refine KT.go hE ?_); clear hT hE T E)
  | simp [*, -List.all_flatten, -List.all_eq_true, DEFM, a2d, a1q, a2b, hdN, a1c, a0v, a1y, a4p, a3l, a2w, a8f, a0d, a3a, a4w, a2j, a1w, a5l, a1z, a0a, a1g, a0b, a0e, a6x, a8o, a8n, a8m, a1j, a0y, a0z, a2k, a2l, a2m, anR, a3i, MG_t, MG_f, a6b, hsb]
theorem d1a {p : Pg} (hb : PgB p) {x : Pts} (hx : PtB 2000000 x) (hv : a2v p = true) (d1 : x.sites = a0i p) (d2 : x.regs.length = p.funcs.length) (d3 : ¬ x.cells.length = (a0i p).length) : PC Tryz.prog Gl 14 [.agg [.list 4 (fns p.funcs), .list 2 (gbs p.globals), .list 1 (lays p.layouts), .int .i64 p.main], .agg [.list 2 (sits x.sites), .list 1 (lls x.regs), .list 1 (lays x.cells)]] (.bool (a2y p x)) := by
 have hsv := fun (hp : VOk p) => a2f hp
 have hval : PC Tryz.prog Gl 23 [.agg [.list 4 (fns p.funcs), .list 2 (gbs p.globals), .list 1 (lays p.layouts), .int .i64 p.main]] (.bool (a2v p)) := by rw [<- b0i]; exact c19 p hb.f hb.g hb.l hb.ll hb.c
 have hp := vOk hv
 have hs := a2f hp
 have hE := (a5a hp).shp
 have hEc := hE.cn
 have hEr := hE.rn
 have heq := b5x (a := x.sites) (b := a0i p) hx.s
 have hnf := hp.nf
 rw [d1, show decide (a0i p = a0i p) = true from by simp] at heq
 have d2' : ((x.regs.length : Int) = (p.funcs.length : Int)) = (x.regs.length = p.funcs.length) := propext (by omega)
 have d3' : ((x.cells.length : Int) = ((a0i p).length : Int)) = (x.cells.length = (a0i p).length) := propext (by omega)
 have hsb : a2y p x = false := by
  have : a8x p x = false := a7i fun h => d3 h.cn
  simp [a2y, this]
 refine a3d (res := [.tmp 4]) 13 114 [51, 50, 49, 69, 68, 67, 93, 92, 91] (fun d ix => 7 :: d :: ix) (fn := Tryz.f14) (by kernel_rfl) (by rfl) (by rfl) (by rfl) (by simp) (by decide) ?_
 repeat' first
  | ((with_reducible refine cgH ?_); refine a4t rfl (b6q hp (BsS.of (by rfl) ?_)) ?_; (focus (first | rfl | (simp [ninL, ninO, a3p, nins, nin, a0f, a0h, a0a, a1g, a0b, a0c, a1z, mapO, a2h, a1y, a1c, a0v, hdN, *]; done))))
  | with_reducible first | refine a0u (id := 4) 30 a0m (by kernel_rfl) fun K hK => ?_ | refine stp ?_
  | (with_reducible refine stpK ?_; intro K hK)
  | (with_reducible refine stpC ?_; intro T E hT hE)
  | (with_reducible refine stp2 ?_ ?_ <;> intro h)
  | with_reducible first | refine a0p rfl ?_ | refine a1h hval (by simp [nls, nl, *, NLXB]) ?_ | refine hpc hval (by simp [nls, nl, *, NLXB]) ?_ | refine a1h heq (by simp [nls, nl, *, NLXB]) ?_ | refine hpc heq (by simp [nls, nl, *, NLXB]) ?_ | refine a1r rfl (Nat.le_of_ble_eq_true rfl) a0r ?_ | refine a1r rfl (Nat.le_of_ble_eq_true rfl) (a0q (by simp [HPXB, a4p, a2b, ext, upd, *])) ?_ | refine a1s (by decide) (by kernel_rfl) ?_ | refine a0x (by decide) ?_
  | (with_reducible refine Kont.go hK ?_; clear hK K)
  | ((with_reducible first | refine KT.go hT ?_ | refine KT.go hE ?_); clear hT hE T E)
  | simp [*, -List.all_flatten, -List.all_eq_true, DEFM, a2d, a1q, a2b, hdN, a1c, a0v, a1y, a4p, a3l, a2w, a8f, a0d, a3a, a4w, a2j, a1w, a5l, a1z, a0a, a1g, a0b, a0e, a6x, a8o, a8n, a8m, a1j, a0y, a0z, a2k, a2l, a2m, anR, a3i, MG_t, MG_f, a6b, hsb]
theorem a5d {p : Pg} (hb : PgB p) {x : Pts} (hx : PtB 2000000 x) : PC Tryz.prog Gl 14 [.agg [.list 4 (fns p.funcs), .list 2 (gbs p.globals), .list 1 (lays p.layouts), .int .i64 p.main], .agg [.list 2 (sits x.sites), .list 1 (lls x.regs), .list 1 (lays x.cells)]] (.bool (a2y p x)) := by
 cases hv : a2v p with
 | false => exact d7s hb x hv
 | true =>
   by_cases d1 : x.sites = a0i p
   . by_cases d2 : x.regs.length = p.funcs.length
     . by_cases d3 : x.cells.length = (a0i p).length
       . exact d7r hb hx hv d1 d2 d3
       . exact d1a hb hx hv d1 d2 d3
     . exact d1b hb hx hv d1 d2
   . exact d1c hb hx hv d1
theorem c7v {p : Pg} (hp : VOk p) {x : Pts} (h : Gv.Form p x) (N : Nat) (hN : 64001 <= N) : PtB N x := by
 have hs := a2f hp
 refine ⟨by rw [h.sites]; omega, by rw [h.rn]; have := hp.nf; omega, by rw [h.cn]; omega, fun a ha => ?_, fun a ha s hs' => ?_, fun s hs' => ?_⟩
 . obtain ⟨i, hi, rfl⟩ := List.getElem_of_mem ha
   have hi' : i < p.funcs.length := by rw [<- h.rn]; exact hi
   have := h.fn i hi hi'
   have := (hp.regs (List.getElem_mem hi')).r64
   omega
 . obtain ⟨i, hi, rfl⟩ := List.getElem_of_mem ha
   have := b3e (h.rs i hi s hs').1 (h.rs i hi s hs').2
   omega
 . have := b3e (h.cs s hs').1 (h.cs s hs').2
   omega
theorem rnd0 {p : Pg} (hp : VOk p) : Rnd p (a4h p) := ⟨a5a hp, (crd0 hp).least⟩
theorem b6t {p : Pg} (hb : PgB p) : PC Tryz.prog Gl 10 [.agg [.list 4 (fns p.funcs), .list 2 (gbs p.globals), .list 1 (lays p.layouts), .int .i64 p.main]] (.agg [.list 2 (sits (lfpP p).sites), .list 1 (lls (lfpP p).regs), .list 1 (lays (lfpP p).cells)]) := by
 cases hv : a2v p with
 | true => exact c9k hb hv
 | false =>
   rw [d3k hv]
   exact (c9l hb hv).deep ⟨_, rfl, _, _, rfl, .inr ⟨2, rfl⟩, _, _, rfl, .inr ⟨1, rfl⟩, _, _, rfl, .inr ⟨1, rfl⟩, rfl⟩
theorem c3z {p : Pg} (hb : PgB p) (hv : a2v p = false) : PC Tryz.prog Gl 12 [.agg [.list 4 (fns p.funcs), .list 2 (gbs p.globals), .list 1 (lays p.layouts), .int .i64 p.main]] (.agg [.nils, .nils, .nils]) := by
 have hval : PC Tryz.prog Gl 20 [.agg [.list 4 (fns p.funcs), .list 2 (gbs p.globals), .list 1 (lays p.layouts), .int .i64 p.main]] (.bool (a2v p)) := c21 p hb.f hb.g hb.l hb.ll hb.c
 refine a3d (res := [.cell 2 33]) 5 19 [] (fun d ix => 0 :: d :: ix) (fn := Tryz.f12) (by kernel_rfl) (by rfl) (by rfl) (by rfl) (by simp) (by decide) ?_
 repeat' first
  | with_reducible refine stp ?_
  | (with_reducible refine stpK ?_; intro K hK)
  | (with_reducible refine stpC ?_; intro T E hT hE)
  | (with_reducible refine stp2 ?_ ?_ <;> intro h)
  | with_reducible first | refine a0p rfl ?_ | refine a1h hval (by simp [nls, nl, *, NLXB]) ?_ | refine hpc hval (by simp [nls, nl, *, NLXB]) ?_ | refine a1r rfl (Nat.le_of_ble_eq_true rfl) a0r ?_ | refine a1r rfl (Nat.le_of_ble_eq_true rfl) (a0q (by simp [HPXB, ext, upd, *])) ?_ | refine a1s (by decide) (by kernel_rfl) ?_ | refine a0x (by decide) ?_
  | (with_reducible refine Kont.go hK ?_; clear hK K)
  | ((with_reducible first | refine KT.go hT ?_ | refine KT.go hE ?_); clear hT hE T E)
  | simp [*, -List.all_flatten, -List.all_eq_true, DEFB, asR, a3l]
 exact ⟨_, _, ⟨rfl, rfl⟩, .inl rfl, _, _, rfl, .inl rfl, _, rfl, .inl rfl⟩
theorem c3y {p : Pg} (hb : PgB p) (hv : a2v p = true) : PC Tryz.prog Gl 12 [.agg [.list 4 (fns p.funcs), .list 2 (gbs p.globals), .list 1 (lays p.layouts), .int .i64 p.main]] (.agg [.list 2 (sits (lfpP p).sites), .list 1 (lls (lfpP p).regs), .list 1 (lays (lfpP p).cells)]) := by
 have hval : PC Tryz.prog Gl 20 [.agg [.list 4 (fns p.funcs), .list 2 (gbs p.globals), .list 1 (lays p.layouts), .int .i64 p.main]] (.bool (a2v p)) := c21 p hb.f hb.g hb.l hb.ll hb.c
 have hp := vOk hv
 refine a3d (res := [.cell 2 33]) 5 19 [] (fun d ix => 0 :: d :: ix) (fn := Tryz.f12) (by kernel_rfl) (by rfl) (by rfl) (by rfl) (by simp) (by decide) ?_
 repeat' first
  | ((with_reducible refine a1u ?_); refine a2n (σ := {x : Pts // Rnd p x}) (fun y => [(4, .undef)]) [] (fun y => []) [[0, 4]] (fun y => [([0, 3], .cells 33 3 [[.list 2 (sits y.1.sites), .list 1 (lls y.1.regs), .list 1 (lays y.1.cells)]])]) (fun y => noH) (fun y => muR p y.1) ⟨a4h p, rnd0 hp⟩ (gk3 (j := 0) [] (Bs.pc _) ?_ ?_ ?_ ?_ ?_ ?_ ?_) ?_; (iterate 7 (focus (first | rfl | (simp [LPXB, *, SIMB, hdN, injB]; done)))); rintro ⟨x, hR⟩; simp only [lpS, LPXB]; (try dsimp only at hR); have hF := hR.form; have hB1 := c7v hp hF 2000000 (by decide); have hps := d0x hp hF hB1; have hsm := c2h (y := a9x p x) hB1; by_cases e : x = a9x p x; have he := b3p e; have hlf := c7c hv (hR.fin hv e); clear e; rotate_left; have he := a9h e; rotate_left)
  | ((with_reducible refine a1p ?_); refine a2a (⟨a9x p x, hR.next hp⟩) (gk3 (j := 0) [] (Bs.pc _) ?_ ?_ ?_ ?_ ?_ ?_ ?_) ?_; (iterate 7 (focus (first | rfl | (simp [LPXB, *, SIMB, hdN, injB]; done)))); (focus (dsimp only; exact hR.mu hp e)))
  | with_reducible refine stp ?_
  | (with_reducible refine stpK ?_; intro K hK)
  | (with_reducible refine stpC ?_; intro T E hT hE)
  | (with_reducible refine stp2 ?_ ?_ <;> intro h)
  | with_reducible first | refine a0p rfl ?_ | refine a1h hval (by simp [nls, nl, *, NLXB]) ?_ | refine hpc hval (by simp [nls, nl, *, NLXB]) ?_ | refine a1h (b9v hp) (by simp [nls, nl, *, NLXB]) ?_ | refine hpc (b9v hp) (by simp [nls, nl, *, NLXB]) ?_ | refine a1h hps (by simp [nls, nl, *, NLXB]) ?_ | refine hpc hps (by simp [nls, nl, *, NLXB]) ?_ | refine a1h hsm (by simp [nls, nl, *, NLXB]) ?_ | refine hpc hsm (by simp [nls, nl, *, NLXB]) ?_ | refine a1r rfl (Nat.le_of_ble_eq_true rfl) a0r ?_ | refine a1r rfl (Nat.le_of_ble_eq_true rfl) (a0q (by simp [HPXB, ext, upd, *])) ?_ | refine a1s (by decide) (by kernel_rfl) ?_ | refine a0x (by decide) ?_
  | (with_reducible refine Kont.go hK ?_; clear hK K)
  | ((with_reducible first | refine KT.go hT ?_ | refine KT.go hE ?_); clear hT hE T E)
  | simp [*, -List.all_flatten, -List.all_eq_true, DEFB, LENB, asR]
theorem c9j {p : Pg} (hb : PgB p) : PC Tryz.prog Gl 12 [.agg [.list 4 (fns p.funcs), .list 2 (gbs p.globals), .list 1 (lays p.layouts), .int .i64 p.main]] (.agg [.list 2 (sits (lfpP p).sites), .list 1 (lls (lfpP p).regs), .list 1 (lays (lfpP p).cells)]) := by
 cases hv : a2v p with
 | true => exact c3y hb hv
 | false =>
   rw [d3k hv]
   exact (c3z hb hv).deep ⟨_, rfl, _, _, rfl, .inr ⟨2, rfl⟩, _, _, rfl, .inr ⟨1, rfl⟩, _, _, rfl, .inr ⟨1, rfl⟩, rfl⟩
end Go.Ge
