/- Parts of the proof. -/
import Derived.Test.YtfhhgjbcenhdeaaGreatQ43
set_option linter.unusedSimpArgs false
set_option linter.unusedVariables false
namespace Go.Ge
open Go Go.FM Go.Gv Go.Proofs
set_option maxRecDepth 100000
set_option maxHeartbeats 40000000
theorem c9m {p : Pg} {x : Pts} (hv : a2v p = true) (hf : a8x p x = true) : c4e (a9x p x) x = a2y p x := by
 have h1 := c6q hv (b1z hf)
 unfold c4e a2y
 rw [hv, hf]
 simp only [Bool.true_and]
 exact decide_eq_decide.2 h1
theorem f0q {p : Pg} (hp : VOk p) {x : Pts} (hx : Gv.Form p x) : PtB 2000000 (a9x p x) := by
 have h := (b7e hp hx).1
 have hs := a2f hp
 refine ⟨by rw [h.sites]; omega, by rw [h.rn]; have := hp.nf; omega, by rw [h.cn]; omega, fun a ha => ?_, fun a ha s hs' => ?_, fun s hs' => ?_⟩
 . obtain ⟨i, hi, rfl⟩ := List.getElem_of_mem ha
   have hi' : i < p.funcs.length := by rw [<- h.rn]; exact hi
   have := h.fn i hi hi'
   have := (hp.regs (List.getElem_mem hi')).r64
   omega
 . obtain ⟨i, hi, rfl⟩ := List.getElem_of_mem ha
   have := b3e (h.rs i hi s hs').1 (h.rs i hi s hs').2
   omega
 . have := b3e (h.cs s hs').1 (h.cs s hs').2
   omega
theorem d7y {p : Pg} {x : Pts} (h : a2v p = false) : a2y p x = false := by simp [a2y, h]
theorem d1e {p : Pg} (hb : PgB p) {x : Pts} (hx : PtB 2000000 x) (hv : a2v p = false) : PC Tryz.prog Gl 16 [.agg [.list 4 (fns p.funcs), .list 2 (gbs p.globals), .list 1 (lays p.layouts), .int .i64 p.main], .agg [.list 2 (sits x.sites), .list 1 (lls x.regs), .list 1 (lays x.cells)]] (.bool (a2y p x)) := by
 have hval : PC Tryz.prog Gl 20 [.agg [.list 4 (fns p.funcs), .list 2 (gbs p.globals), .list 1 (lays p.layouts), .int .i64 p.main]] (.bool (a2v p)) := c21 p hb.f hb.g hb.l hb.ll hb.c
 refine a3d (res := [.tmp 4]) 5 19 [] (fun d ix => 0 :: d :: ix) (fn := Tryz.f16) (by kernel_rfl) (by rfl) (by rfl) (by rfl) (by simp) (by decide) ?_
 repeat' first
  | with_reducible first | refine a0u (id := 1) 14 a0m (by kernel_rfl) fun K hK => ?_ | refine stp ?_
  | (with_reducible refine stpK ?_; intro K hK)
  | (with_reducible refine stpC ?_; intro T E hT hE)
  | (with_reducible refine stp2 ?_ ?_ <;> intro h)
  | with_reducible first | refine a0p rfl ?_ | refine a1h hval (by simp [nls, nl, *, NLXB]) ?_ | refine hpc hval (by simp [nls, nl, *, NLXB]) ?_ | refine a1r rfl (Nat.le_of_ble_eq_true rfl) a0r ?_ | refine a1r rfl (Nat.le_of_ble_eq_true rfl) (a0q (by simp [HPXB, ext, upd, *])) ?_ | refine a1s (by decide) (by kernel_rfl) ?_ | refine a0x (by decide) ?_
  | (with_reducible refine Kont.go hK ?_; clear hK K)
  | ((with_reducible first | refine KT.go hT ?_ | refine KT.go hE ?_); clear hT hE T E)
  | simp [*, -List.all_flatten, -List.all_eq_true, DEFB, asR, d7y hv]
theorem d1f {p : Pg} (hb : PgB p) {x : Pts} (hx : PtB 2000000 x) (hv : a2v p = true) (hf : a8x p x = false) : PC Tryz.prog Gl 16 [.agg [.list 4 (fns p.funcs), .list 2 (gbs p.globals), .list 1 (lays p.layouts), .int .i64 p.main], .agg [.list 2 (sits x.sites), .list 1 (lls x.regs), .list 1 (lays x.cells)]] (.bool (a2y p x)) := by
 have hval : PC Tryz.prog Gl 20 [.agg [.list 4 (fns p.funcs), .list 2 (gbs p.globals), .list 1 (lays p.layouts), .int .i64 p.main]] (.bool (a2v p)) := c21 p hb.f hb.g hb.l hb.ll hb.c
 refine a3d (res := [.tmp 4]) 5 19 [] (fun d ix => 0 :: d :: ix) (fn := Tryz.f16) (by kernel_rfl) (by rfl) (by rfl) (by rfl) (by simp) (by decide) ?_
 repeat' first
  | with_reducible first | refine a0u (id := 1) 14 a0m (by kernel_rfl) fun K hK => ?_ | refine stp ?_
  | (with_reducible refine stpK ?_; intro K hK)
  | (with_reducible refine stpC ?_; intro T E hT hE)
  | (with_reducible refine stp2 ?_ ?_ <;> intro h)
  | with_reducible first | refine a0p rfl ?_ | refine a1h hval (by simp [nls, nl, *, NLXB]) ?_ | refine hpc hval (by simp [nls, nl, *, NLXB]) ?_ | refine a1h (c5z (vOk hv) hx) (by simp [nls, nl, *, NLXB]) ?_ | refine hpc (c5z (vOk hv) hx) (by simp [nls, nl, *, NLXB]) ?_ | refine a1r rfl (Nat.le_of_ble_eq_true rfl) a0r ?_ | refine a1r rfl (Nat.le_of_ble_eq_true rfl) (a0q (by simp [HPXB, ext, upd, *])) ?_ | refine a1s (by decide) (by kernel_rfl) ?_ | refine a0x (by decide) ?_
  | (with_reducible refine Kont.go hK ?_; clear hK K)
  | ((with_reducible first | refine KT.go hT ?_ | refine KT.go hE ?_); clear hT hE T E)
  | simp [*, -List.all_flatten, -List.all_eq_true, DEFB, asR, b5y hf]
theorem d1d {p : Pg} (hb : PgB p) {x : Pts} (hx : PtB 2000000 x) (hv : a2v p = true) (hf : a8x p x = true) : PC Tryz.prog Gl 16 [.agg [.list 4 (fns p.funcs), .list 2 (gbs p.globals), .list 1 (lays p.layouts), .int .i64 p.main], .agg [.list 2 (sits x.sites), .list 1 (lls x.regs), .list 1 (lays x.cells)]] (.bool (a2y p x)) := by
 have hval : PC Tryz.prog Gl 20 [.agg [.list 4 (fns p.funcs), .list 2 (gbs p.globals), .list 1 (lays p.layouts), .int .i64 p.main]] (.bool (a2v p)) := c21 p hb.f hb.g hb.l hb.ll hb.c
 have hss := c9m hv hf
 refine a3d (res := [.tmp 4]) 5 19 [] (fun d ix => 0 :: d :: ix) (fn := Tryz.f16) (by kernel_rfl) (by rfl) (by rfl) (by rfl) (by simp) (by decide) ?_
 repeat' first
  | with_reducible first | refine a0u (id := 1) 14 a0m (by kernel_rfl) fun K hK => ?_ | refine stp ?_
  | (with_reducible refine stpK ?_; intro K hK)
  | (with_reducible refine stpC ?_; intro T E hT hE)
  | (with_reducible refine stp2 ?_ ?_ <;> intro h)
  | with_reducible first | refine a0p rfl ?_ | refine a1h hval (by simp [nls, nl, *, NLXB]) ?_ | refine hpc hval (by simp [nls, nl, *, NLXB]) ?_ | refine a1h (c5z (vOk hv) hx) (by simp [nls, nl, *, NLXB]) ?_ | refine hpc (c5z (vOk hv) hx) (by simp [nls, nl, *, NLXB]) ?_ | refine a1h (d0x (vOk hv) (b1z hf) hx) (by simp [nls, nl, *, NLXB]) ?_ | refine hpc (d0x (vOk hv) (b1z hf) hx) (by simp [nls, nl, *, NLXB]) ?_ | refine a1h (c2h (y := x) (f0q (vOk hv) (b1z hf))) (by simp [nls, nl, *, NLXB]) ?_ | refine hpc (c2h (y := x) (f0q (vOk hv) (b1z hf))) (by simp [nls, nl, *, NLXB]) ?_ | refine a1r rfl (Nat.le_of_ble_eq_true rfl) a0r ?_ | refine a1r rfl (Nat.le_of_ble_eq_true rfl) (a0q (by simp [HPXB, ext, upd, *])) ?_ | refine a1s (by decide) (by kernel_rfl) ?_ | refine a0x (by decide) ?_
  | (with_reducible refine Kont.go hK ?_; clear hK K)
  | ((with_reducible first | refine KT.go hT ?_ | refine KT.go hE ?_); clear hT hE T E)
  | simp [*, -List.all_flatten, -List.all_eq_true, DEFB, asR]
theorem a4l {p : Pg} (hb : PgB p) {x : Pts} (hx : PtB 2000000 x) : PC Tryz.prog Gl 16 [.agg [.list 4 (fns p.funcs), .list 2 (gbs p.globals), .list 1 (lays p.layouts), .int .i64 p.main], .agg [.list 2 (sits x.sites), .list 1 (lls x.regs), .list 1 (lays x.cells)]] (.bool (a2y p x)) := by
 cases hv : a2v p with
 | false => exact d1e hb hx hv
 | true =>
   cases hf : a8x p x with
   | false => exact d1f hb hx hv hf
   | true => exact d1d hb hx hv hf
structure Wi (z x : Pts) : Prop where
 rl : x.regs.length = z.regs.length
 cl' : x.cells.length = z.cells.length
 len : ∀ f (h : f < x.regs.length) (h' : f < z.regs.length), x.regs[f].length = z.regs[f].length
 row : ∀ f (h : f < x.regs.length) (h' : f < z.regs.length) i (h1 : i < x.regs[f].length) (h2 : i < z.regs[f].length), ∀ o ∈ z.regs[f][i], o ∈ x.regs[f][i]
 cs : ∀ i (h1 : i < x.cells.length) (h2 : i < z.cells.length), ∀ o ∈ z.cells[i], o ∈ x.cells[i]
theorem g0u {p : Pg} {z x : Pts} (hz : Gv.Form p z) (hx : Gv.Form p x) (h : sub z x) : Wi z x := by
 refine ⟨by rw [hx.rn, hz.rn], by rw [hx.cn, hz.cn], fun f h1 h2 => ?_, fun f h1 h2 i g1 g2 o ho => ?_, fun i g1 g2 o ho => ?_⟩
 . have hf : f < p.funcs.length := by rw [<- hx.rn]; exact h1
   have := hx.fn f h1 hf
   have := hz.fn f h2 hf
   omega
 . have := b2v h f (i : Int) o (by rw [c4i h2 g2]; exact ho)
   rwa [c4i h1 g1] at this
 . have := b6u h (i : Int) o (by rw [d0h g2]; exact ho)
   rwa [d0h g1] at this
theorem d0z {a b : List Int} (ha : a.length <= 1000000) (hb : b.length <= 1000000000) (h : ∀ o ∈ a, o ∈ b) : PC Tryz.prog Gl 60 [.list 1 (ints a), .list 1 (ints b)] (.bool true) := by
 refine a3d (res := [.tmp 4]) 6 19 [] (fun d ix => 0 :: d :: ix) (fn := Tryz.f60) (by kernel_rfl) (by rfl) (by rfl) (by rfl) (by simp) (by decide) ?_
 repeat' first
  | ((with_reducible refine a1u ?_); refine a2n (σ := {i : Nat // i <= a.length}) (fun y => [(5, .int .i64 (y.1 : Int))]) [] (fun y => []) [] (fun y => []) (fun y => noH) (fun y => a.length - y.1) ⟨0, by simp⟩ (gk3 (j := 0) [] (Bs.pc _) ?_ ?_ ?_ ?_ ?_ ?_ ?_) ?_; (iterate 7 (focus (first | rfl | (simp [LPXB, *, SIMB, hdN, injB]; done)))); rintro ⟨i, hi⟩; simp only [lpS, LPXB]; (try dsimp only at hi); rcases a1t hi with hlt | ⟨hlt, rfl⟩; have wi := wli hlt (Nat.le_trans ha (by decide)); have hh := d1h b (a[i]'hlt) hb; have hm : hasI b (a[i]'hlt) = true := (by obtain ⟨j, hj, e⟩ := List.getElem_of_mem (h _ (List.getElem_mem hlt)); exact c4s hj e))
  | ((with_reducible refine a1p ?_); refine a2a (⟨i + 1, by omega⟩) (gk3 (j := 0) [] (Bs.pc _) ?_ ?_ ?_ ?_ ?_ ?_ ?_) ?_; (iterate 7 (focus (first | rfl | (simp [LPXB, *, SIMB, hdN, injB]; done)))); (focus (dsimp only; omega)))
  | with_reducible refine stp ?_
  | (with_reducible refine stpK ?_; intro K hK)
  | (with_reducible refine stpC ?_; intro T E hT hE)
  | (with_reducible refine stp2 ?_ ?_ <;> intro h)
  | with_reducible first | refine a0p rfl ?_ | refine a1h hh (by simp [nls, nl, *, NLXB]) ?_ | refine hpc hh (by simp [nls, nl, *, NLXB]) ?_ | refine a1r rfl (Nat.le_of_ble_eq_true rfl) a0r ?_ | refine a1r rfl (Nat.le_of_ble_eq_true rfl) (a0q (by simp [HPXB, ext, upd, *])) ?_ | refine a1s (by decide) (by kernel_rfl) ?_ | refine a0x (by decide) ?_
  | (with_reducible refine Kont.go hK ?_; clear hK K)
  | ((with_reducible first | refine KT.go hT ?_ | refine KT.go hE ?_); clear hT hE T E)
  | simp [*, -List.all_flatten, -List.all_eq_true, DEFB, LENB, asR]
theorem b6r {a b : List (List Int)} (ha : a.length <= 1000000) (hl : a.length = b.length) (haa : ∀ s ∈ a, s.length <= 1000000) (hbb : ∀ s ∈ b, s.length <= 1000000) (h : ∀ i (h1 : i < a.length) (h2 : i < b.length), ∀ o ∈ b[i], o ∈ a[i]) : PC Tryz.prog Gl 43 [.list 1 (lays a), .list 1 (lays b)] (.bool true) := by
 refine a3d (res := [.tmp 4]) 6 27 [] (fun d ix => 0 :: d :: ix) (fn := Tryz.f43) (by kernel_rfl) (by rfl) (by rfl) (by rfl) (by simp) (by decide) ?_
 repeat' first
  | ((with_reducible refine a1u ?_); refine a2n (σ := {i : Nat // i <= a.length}) (fun y => [(5, .int .i64 (y.1 : Int))]) [] (fun y => []) [] (fun y => []) (fun y => noH) (fun y => a.length - y.1) ⟨0, by simp⟩ (gk3 (j := 0) [] (Bs.pc _) ?_ ?_ ?_ ?_ ?_ ?_ ?_) ?_; (iterate 7 (focus (first | rfl | (simp [LPXB, *, SIMB, hdN, injB]; done)))); rintro ⟨i, hi⟩; simp only [lpS, LPXB]; (try dsimp only at hi); rcases a1t hi with hlt | ⟨hlt, rfl⟩; have wi := wli hlt (Nat.le_trans ha (by decide)); have hb' : i < b.length := (by omega); have hh := d0z (hbb _ (List.getElem_mem hb')) (Nat.le_trans (haa _ (List.getElem_mem hlt)) (by decide)) (h i hlt hb'))
  | ((with_reducible refine a1p ?_); refine a2a (⟨i + 1, by omega⟩) (gk3 (j := 0) [] (Bs.pc _) ?_ ?_ ?_ ?_ ?_ ?_ ?_) ?_; (iterate 7 (focus (first | rfl | (simp [LPXB, *, SIMB, hdN, injB]; done)))); (focus (dsimp only; omega)))
  | with_reducible first | refine a0u (id := 6) 10 a0m (by kernel_rfl) fun K hK => ?_ | refine stp ?_
  | (with_reducible refine stpK ?_; intro K hK)
  | (with_reducible refine stpC ?_; intro T E hT hE)
  | (with_reducible refine stp2 ?_ ?_ <;> intro h)
  | with_reducible first | refine a0p rfl ?_ | refine a1h hh (by simp [nls, nl, *, NLXB]) ?_ | refine hpc hh (by simp [nls, nl, *, NLXB]) ?_ | refine a1r rfl (Nat.le_of_ble_eq_true rfl) a0r ?_ | refine a1r rfl (Nat.le_of_ble_eq_true rfl) (a0q (by simp [HPXB, ext, upd, *])) ?_ | refine a1s (by decide) (by kernel_rfl) ?_ | refine a0x (by decide) ?_
  | (with_reducible refine Kont.go hK ?_; clear hK K)
  | ((with_reducible first | refine KT.go hT ?_ | refine KT.go hE ?_); clear hT hE T E)
  | simp [*, -List.all_flatten, -List.all_eq_true, DEFB, LENB, asR]
theorem c4b {x z : Pts} (hx : PtB 1000000 x) (hy : PtB 1000000 z) (h : Wi z x) : PC Tryz.prog Gl 21 [.agg [.list 2 (sits x.sites), .list 1 (lls x.regs), .list 1 (lays x.cells)], .agg [.list 2 (sits z.sites), .list 1 (lls z.regs), .list 1 (lays z.cells)]] (.bool true) := by
 have hrl := h.rl
 have hcc := b6r hx.c h.cl' hx.cs hy.cs h.cs
 refine a3d (res := [.tmp 4]) 6 40 [] (fun d ix => 0 :: d :: ix) (fn := Tryz.f21) (by kernel_rfl) (by rfl) (by rfl) (by rfl) (by simp) (by decide) ?_
 repeat' first
  | ((with_reducible refine a1u ?_); refine a2n (σ := {i : Nat // i <= x.regs.length}) (fun y => [(5, .int .i64 (y.1 : Int))]) [] (fun y => []) [] (fun y => []) (fun y => noH) (fun y => x.regs.length - y.1) ⟨0, by simp⟩ (gk3 (j := 0) [] (Bs.pc _) ?_ ?_ ?_ ?_ ?_ ?_ ?_) ?_; (iterate 7 (focus (first | rfl | (simp [LPXB, *, SIMB, hdN, injB]; done)))); rintro ⟨f, hf⟩; simp only [lpS, LPXB]; (try dsimp only at hf); rcases a1t hf with hlt | ⟨hlt, rfl⟩; have wi := wli hlt (Nat.le_trans hx.r (by decide)); have hfy : f < z.regs.length := (by omega); have hh := b6r (hx.rr _ (List.getElem_mem hlt)) (h.len f hlt hfy) (hx.rs _ (List.getElem_mem hlt)) (hy.rs _ (List.getElem_mem hfy)) (h.row f hlt hfy))
  | ((with_reducible refine a1p ?_); refine a2a (⟨f + 1, by omega⟩) (gk3 (j := 0) [] (Bs.pc _) ?_ ?_ ?_ ?_ ?_ ?_ ?_) ?_; (iterate 7 (focus (first | rfl | (simp [LPXB, *, SIMB, hdN, injB]; done)))); (focus (dsimp only; omega)))
  | with_reducible first | refine a0u (id := 6) 12 a0m (by kernel_rfl) fun K hK => ?_ | refine stp ?_
  | (with_reducible refine stpK ?_; intro K hK)
  | (with_reducible refine stpC ?_; intro T E hT hE)
  | (with_reducible refine stp2 ?_ ?_ <;> intro h)
  | with_reducible first | refine a0p rfl ?_ | refine a1h hcc (by simp [nls, nl, *, NLXB]) ?_ | refine hpc hcc (by simp [nls, nl, *, NLXB]) ?_ | refine a1h hh (by simp [nls, nl, *, NLXB]) ?_ | refine hpc hh (by simp [nls, nl, *, NLXB]) ?_ | refine a1r rfl (Nat.le_of_ble_eq_true rfl) a0r ?_ | refine a1r rfl (Nat.le_of_ble_eq_true rfl) (a0q (by simp [HPXB, ext, upd, *])) ?_ | refine a1s (by decide) (by kernel_rfl) ?_ | refine a0x (by decide) ?_
  | (with_reducible refine Kont.go hK ?_; clear hK K)
  | ((with_reducible first | refine KT.go hT ?_ | refine KT.go hE ?_); clear hT hE T E)
  | simp [*, -List.all_flatten, -List.all_eq_true, DEFB, LENB, asR]
theorem c7z (o : Int) : ∀ (ks : List Int) (g : Nat -> Nat) (i : Nat), o ∈ ks -> ∃ n, ∃ h : n < ks.length, ks[n] = o /\ a8i Tryz.prog 3 (.int .i64 o) (ks.mapIdx fun j k => (FV.int .i64 k, FV.agg [], g j)) i = some (some (i + n, .agg []))
 | [], _, _, h => by cases h
 | k :: ks, g, i, h => by
   rw [List.mapIdx_cons]
   simp only [a8i, eqK3]
   by_cases e : o = k
   . subst e
     exact ⟨0, by simp, rfl, by simp⟩
   . have hm : o ∈ ks := by
      rcases List.mem_cons.1 h with h | h
      . exact absurd h e
      . exact h
     obtain ⟨n, hn, h1, h2⟩ := c7z o ks (fun j => g (j + 1)) (i + 1) hm
     refine ⟨n + 1, by simpa using hn, by simpa using h1, ?_⟩
     simp only [e, decide_false]
     rw [h2]
     congr 3
     omega
theorem e5k {H : Heap} {l : FM.Loc} {ks : List Int} (h : H l = some (mapO ks)) {o : Int} (ho : o ∈ ks) : b0g Tryz.prog H 54 (.mp l) (.int .i64 o) (.agg []) = some ([(l, mapO ks)], .undef) := by
 have hk : a9p Tryz.prog 3 (.int .i64 o) = true := by simp [a9p, b7u]
 obtain ⟨n, hn, h1, h2⟩ := c7z o ks (fun j => j) 0 ho
 have h2 : a8i Tryz.prog 3 (.int .i64 o) (ents ks) 0 = some (some (0 + n, .agg [])) := h2
 rw [Nat.zero_add] at h2
 have hm : (ents ks).modify n (fun e => (FV.int .i64 o, FV.agg [], e.2.2)) = ents ks := by
  refine List.ext_getElem (by rw [List.length_modify]) fun j g1 g2 => ?_
  rw [List.getElem_modify]
  split
  . rename_i e
    subst e
    simp [ents, h1]
  . rfl
 simp only [b0g, b6i, h, mapO, hk, if_true, h2, hm]
theorem b9w {l : List Int} (hl : l.length <= 1000000000) : PC Tryz.prog Gl 39 [.list 1 (ints l)] (.list 1 (ints l)) := by
 have hz := szn (n := l.length) (k := 8) (by omega) (by decide)
 have hz2 : l.length <= 4611686018427387904 := by omega
 refine a3d (res := [.tmp 2]) 3 8 [] (fun d ix => 0 :: d :: ix) (fn := Tryz.f39) (by kernel_rfl) (by rfl) (by rfl) (by rfl) (by simp) (by decide) ?_
 repeat' first
  | ((with_reducible refine a2c (id := 1) fun K hK => ?_); refine a1o 1 ?_)
  | (with_reducible refine a5f ?_)
  | ((with_reducible refine wlH ?_); refine e4d (d := 4) (sz := 1) (xs := ints l) ?_ rfl rfl (Nat.le_of_ble_eq_true rfl) ?_ ?_ (by kernel_rfl) ?_; (focus (first | rfl | (simp [a2z]; done))); (focus (first | rfl | (simp [rv, Fs.get, lk]; done))); (focus (first | rfl | (simp [rv, cv, cv1]; done))); (rintro b hb); have hb2 : b = true -> l = [] := (fun e => by have := hb e; cases l with | nil => rfl | cons a r => simp [ints] at this); clear hb)
  | with_reducible refine stp ?_
  | (with_reducible refine stpK ?_; intro K hK)
  | (with_reducible refine stpC ?_; intro T E hT hE)
  | (with_reducible refine stp2 ?_ ?_ <;> intro h)
  | with_reducible first | refine a0p rfl ?_ | refine a1r rfl (Nat.le_of_ble_eq_true rfl) a0r ?_ | refine a1r rfl (Nat.le_of_ble_eq_true rfl) (a0q (by simp [HPXB, ext, upd, *])) ?_ | refine b8i _ (by decide) (by kernel_rfl) rfl (by kernel_rfl) (by simp [a2z]) rfl (Nat.le_of_ble_eq_true rfl) ?_ | refine a1s (by decide) (by kernel_rfl) ?_ | refine a0x (by decide) ?_
  | (with_reducible refine Kont.go hK ?_; clear hK K)
  | ((with_reducible first | refine KT.go hT ?_ | refine KT.go hE ?_); clear hT hE T E)
  | simp [*, -List.all_flatten, -List.all_eq_true, DEFB, LENB, asR, List.take_length, a2t, a0w, a3e]
def aAt (code : List Ins) (k : Nat) : Int := match code[k]? with
 | some n => n.a
 | none => 0
theorem e3s {code : List Ins} {k : Nat} (h : k < code.length) : aAt code k = code[k].a := by simp [aAt, List.getElem?_eq_getElem h]
def selR (x : Pts) (f : Nat) (code : List Ins) (pc k : Nat) : List Int := (List.range k).foldl (fun out i => a3v out (rg x f (aAt code (pc + 1 + i)))) []
theorem c6l (x : Pts) (f : Nat) (code : List Ins) (pc : Nat) : selR x f code pc 0 = [] := rfl
theorem d1z (x : Pts) (f : Nat) (code : List Ins) (pc k : Nat) : selR x f code pc (k + 1) = a3v (selR x f code pc k) (rg x f (aAt code (pc + 1 + k))) := by
 unfold selR
 rw [List.range_succ, List.foldl_append]
 rfl
theorem b3s {n : Nat} {a b : List Int} (ha : okS n a) (hb : okS n b) : okS n (a3v a b) :=
 ⟨b1u ha.1, fun x hx => by
  rcases a5y.1 hx with h | h
  . exact ha.2 x h
  . exact hb.2 x h⟩
theorem c0i {p : Pg} {x : Pts} (hx : Gv.Form p x) (f : Nat) (code : List Ins) (pc : Nat) : ∀ k, okS (a0i p).length (selR x f code pc k)
 | 0 => ⟨List.Pairwise.nil, by simp [c6l]⟩
 | k + 1 => by rw [d1z]; exact b3s (c0i hx f code pc k) (hx.reg f _)
theorem d9r {p : Pg} {x : Pts} (hx : Gv.Form p x) (f : Nat) (code : List Ins) (pc k : Nat) : inc (selR x f code pc k) := (c0i hx f code pc k).1
def accA (o : Int) : Prop := o = 34 \/ o = 36 \/ o = 39 \/ o = 40 \/ o = 41 \/ o = 42 \/ o = 43 \/ o = 44 \/ o = 45 \/ o = 46 \/ o = 47 \/ o = 49 \/ o = 51
def accB (o : Int) : Prop := o = 33 \/ o = 35 \/ o = 37 \/ o = 38 \/ o = 48
open Classical in
noncomputable def accI (x : Pts) (f : Nat) (code : List Ins) (pc : Nat) (n : Ins) : List Int :=
 if accA n.op then rg x f n.a else if accB n.op then rg x f n.b else if n.op = 50 then selR x f code pc n.b.toNat else []
open Classical in
noncomputable def accP (p : Pg) (x : Pts) (s : Int × Int) : List Int :=
 if a2y p x = true /\ 0 <= s.1 /\ 0 <= s.2 then match p.funcs[s.1.toNat]? with
  | some fn => match fn.code[s.2.toNat]? with
    | some n => accI x s.1.toNat fn.code s.2.toNat n
    | none => []
  | none => []
 else []
theorem b0w {p : Pg} {x : Pts} {f pc : Nat} (hs : a2y p x = true) (hf : f < p.funcs.length) (hc : pc < p.funcs[f].code.length) : accP p x ((f : Int), (pc : Int)) = accI x f p.funcs[f].code pc p.funcs[f].code[pc] := by
 simp [accP, hs, List.getElem?_eq_getElem hf, List.getElem?_eq_getElem hc]
theorem c5i {p : Pg} {x : Pts} (hs : a2y p x = false) (s : Int × Int) : accP p x s = [] := by simp [accP, hs]
theorem d6j {p : Pg} {x : Pts} {a b : Int} (h : a < 0) : accP p x (a, b) = [] := by
 have : ¬ 0 <= a := by omega
 simp [accP, this]
theorem d6l {p : Pg} {x : Pts} {a b : Int} (h : b < 0) : accP p x (a, b) = [] := by
 have : ¬ 0 <= b := by omega
 simp [accP, this]
theorem d6i {p : Pg} {x : Pts} {f : Nat} {b : Int} (h : p.funcs.length <= f) : accP p x ((f : Int), b) = [] := by
 simp [accP, List.getElem?_eq_none h]
theorem d6k {p : Pg} {x : Pts} {f pc : Nat} (hf : f < p.funcs.length) (h : p.funcs[f].code.length <= pc) : accP p x ((f : Int), (pc : Int)) = [] := by
 simp [accP, List.getElem?_eq_getElem hf, List.getElem?_eq_none h]
def d3p (l : List Ins) : Prop := ∀ y, l.getLast? = some y -> y.op ≠ 50 /\ y.op ≠ 51
theorem b4s {x : Ins} {r : List Ins} (h : d3p (x :: r)) : d3p r := fun y hy => by
 cases r with
 | nil => simp at hy
 | cons z r => exact h y (by rw [List.getLast?_cons_cons]; exact hy)
theorem c2m {p : Pg} {f : FnD} : ∀ (l : List Ins) (e : Nat), e <= 8 -> (e = 0 \/ l ≠ []) -> b1n p f l (e : Int) = true -> d3p l -> ∀ k, k < e -> ∃ h : k < l.length, l[k].op = 51
 | [], e, _, h, _, _, k, hk => by
   rcases h with h | h
   . omega
   . exact absurd rfl h
 | x :: r, e, h8, _, hl, hla, k, hk => by
   have hp : (0 : Int) < (e : Int) := by omega
   unfold b1n at hl
   by_cases h51 : x.op = 51
   . have h50 : ¬ x.op = 50 := by omega
     simp only [hp, h51, decide_true, if_true, Bool.and_eq_true] at hl
     have hl2 := hl.2
     rw [if_neg (by omega)] at hl2
     cases k with
     | zero => exact ⟨by simp, by simpa using h51⟩
     | succ k =>
       have w : W ((e : Int) - 1) = ((e - 1 : Nat) : Int) := by rw [W_id (by omega) (by omega)]; omega
       rw [w] at hl2
       obtain ⟨h1, h2⟩ := c2m r (e - 1) (by omega) (by
        right
        intro hr
        subst hr
        exact (hla x (by simp)).2 h51) hl2 (b4s hla) k (by omega)
       exact ⟨by simpa using h1, by simpa using h2⟩
   . simp [hp, h51] at hl
     omega
theorem e2e {p : Pg} {f : FnD} : ∀ (l : List Ins) (e : Int) (j : Nat) (hj : j < l.length), b1n p f l e = true -> d3p l -> l[j].op = 50 -> (0 <= l[j].b /\ l[j].b <= 8) /\ ∀ k : Nat, (k : Int) < l[j].b -> ∃ h : j + 1 + k < l.length, l[j + 1 + k].op = 51
 | x :: r, e, 0, hj, hl, hla, ho => by
   have ho : x.op = 50 := by simpa using ho
   unfold b1n at hl
   split at hl
   . first | rw [if_pos ho, Bool.and_eq_true] at hl | rw [Bool.and_eq_true] at hl
     have hb : 0 <= x.b /\ x.b <= 8 := by
      have h1 := hl.1
      simp only [b0c, ho, rR, Bool.and_eq_true] at h1
      have := h1.1.1.2
      simpa [opR] using this
     refine ⟨by simpa using hb, fun k hk => ?_⟩
     have hk : (k : Int) < x.b := by simpa using hk
     have hr : r ≠ [] := fun hr => by subst hr; exact (hla x (by simp)).1 ho
     have e1 : x.b = ((x.b.toNat : Nat) : Int) := by omega
     have hl2 := hl.2
     rw [e1] at hl2
     obtain ⟨h1, h2⟩ := c2m r x.b.toNat (by omega) (.inr hr) hl2 (b4s hla) k (by omega)
     have e2 : 0 + 1 + k = k + 1 := by omega
     refine ⟨by simp; omega, ?_⟩
     simp only [e2, List.getElem_cons_succ]
     exact h2
   . cases hl
 | x :: r, e, j + 1, hj, hl, hla, ho => by
   have ho : (r[j]'(by simpa using hj)).op = 50 := by simpa using ho
   unfold b1n at hl
   split at hl
   . rw [Bool.and_eq_true] at hl
     have ih := e2e r _ j (by simpa using hj) hl.2 (b4s hla) ho
     refine ⟨by simpa using ih.1, fun k hk => ?_⟩
     obtain ⟨h1, h2⟩ := ih.2 k (by simpa using hk)
     have e2 : j + 1 + 1 + k = (j + 1 + k) + 1 := by omega
     refine ⟨by simp; omega, ?_⟩
     simp only [e2, List.getElem_cons_succ]
     exact h2
   . cases hl
theorem e2d {p : Pg} (hv : a2v p = true) {f : Nat} (hf : f < p.funcs.length) {pc : Nat} (hc : pc < p.funcs[f].code.length) (ho : p.funcs[f].code[pc].op = 50) : (0 <= p.funcs[f].code[pc].b /\ p.funcs[f].code[pc].b <= 8) /\ ∀ k : Nat, (k : Int) < p.funcs[f].code[pc].b -> ∃ h : pc + 1 + k < p.funcs[f].code.length, isR p.funcs[f] p.funcs[f].code[pc + 1 + k].a := by
 have hp := vOk hv
 have hfn : fnR p p.funcs[f] = true := by
  simp only [a2v, Bool.and_eq_true] at hv
  exact List.all_eq_true.1 hv.2.2.1 _ (List.getElem_mem hf)
 simp only [fnR, Bool.and_eq_true] at hfn
 obtain ⟨⟨_, hh⟩, hl⟩ := hfn
 have hla : d3p p.funcs[f].code := fun y hy => by
  simp only [b1w, Bool.and_eq_true, b0y, Bool.or_eq_true, decide_eq_true_eq] at hh
  have h1 := hh.2
  rw [List.getLast?_eq_getElem?] at hy
  have e : ((p.funcs[f].code.length : Int) - 1).toNat = p.funcs[f].code.length - 1 := by omega
  have h2 : opAt p.funcs[f].code ((p.funcs[f].code.length : Int) - 1) = y.op := by simp only [opAt, e, hy]
  rw [h2] at h1
  omega
 obtain ⟨h1, h2⟩ := e2e _ 0 pc hc hl hla ho
 refine ⟨h1, fun k hk => ?_⟩
 obtain ⟨h3, h4⟩ := h2 k hk
 refine ⟨h3, ?_⟩
 have hI := (hp.ins _ (List.getElem_mem hf) _ (List.getElem_mem h3)).a
 rw [h4] at hI
 exact a4d (r := 114) hI (.inr rfl)
theorem b8t {p : Pg} {x : Pts} (hF : Gv.Form p x) {f : Nat} (hf : f < p.funcs.length) {a : Int} (h : isR p.funcs[f] a) : ∃ na : Nat, a = (na : Int) /\ ∃ hf' : f < x.regs.length, ∃ ha : na < x.regs[f].length, rg x f a = x.regs[f][na] := by
 have hf' : f < x.regs.length := by rw [hF.rn]; exact hf
 have h1 := hF.fn f hf' hf
 obtain ⟨h2, h3⟩ := h
 refine ⟨a.toNat, by omega, hf', by omega, ?_⟩
 have e : a = ((a.toNat : Nat) : Int) := by omega
 have ha : a.toNat < x.regs[f].length := by omega
 rw [show rg x f a = rg x f ((a.toNat : Nat) : Int) by rw [<- e], c4i hf' ha]
theorem a5o {p : Pg} {x : Pts} (h : a2y p x = true) : Gv.Form p x := b1z (by
 simp only [a2y, Bool.and_eq_true] at h
 exact h.2.1)
theorem a4b {p : Pg} {x : Pts} (h : a2y p x = true) : a2v p = true := by
 simp only [a2y, Bool.and_eq_true] at h
 exact h.1
theorem b3b {p : Pg} {x : Pts} (h : a2y p x = true) : VOk p := vOk (a4b h)
theorem acN1 {p : Pg} (hb : PgB p) {x : Pts} (hx : PtB 2000000 x) {a b : Int} (h : a < 0) : PC Tryz.prog Gl 18 [.agg [.list 4 (fns p.funcs), .list 2 (gbs p.globals), .list 1 (lays p.layouts), .int .i64 p.main], .agg [.list 2 (sits x.sites), .list 1 (lls x.regs), .list 1 (lays x.cells)], .agg [.int .i64 a, .int .i64 b]] (.list 1 []) := by
 refine a3d (res := [.tmp 6]) 15 139 [69, 117, 116, 115, 127, 126, 125] (fun d ix => 0 :: d :: ix) (fn := Tryz.f18) (by kernel_rfl) (by rfl) (by rfl) (by rfl) (by simp) (by decide) ?_
 repeat' first
  | with_reducible first | refine a0u (id := 1) 35 a0m (by kernel_rfl) fun K hK => ?_ | refine stp ?_
  | (with_reducible refine stpK ?_; intro K hK)
  | (with_reducible refine stpC ?_; intro T E hT hE)
  | (with_reducible refine stp2 ?_ ?_ <;> intro h)
  | with_reducible first | refine a0p rfl ?_ | refine a1h (a5d hb hx) (by simp [nls, nl, *, NLXB]) ?_ | refine hpc (a5d hb hx) (by simp [nls, nl, *, NLXB]) ?_ | refine a1r rfl (Nat.le_of_ble_eq_true rfl) a0r ?_ | refine a1r rfl (Nat.le_of_ble_eq_true rfl) (a0q (by simp [HPXB, ext, upd, *])) ?_ | refine a1s (by decide) (by kernel_rfl) ?_ | refine a0x (by decide) ?_
  | (with_reducible refine Kont.go hK ?_; clear hK K)
  | ((with_reducible first | refine KT.go hT ?_ | refine KT.go hE ?_); clear hT hE T E)
  | simp [*, -List.all_flatten, -List.all_eq_true, DEFB, LENB, asR, a0w, a2t, List.take_length]
theorem acN2 {p : Pg} (hb : PgB p) {x : Pts} (hx : PtB 2000000 x) {f : Nat} {b : Int} (h : p.funcs.length <= f) : PC Tryz.prog Gl 18 [.agg [.list 4 (fns p.funcs), .list 2 (gbs p.globals), .list 1 (lays p.layouts), .int .i64 p.main], .agg [.list 2 (sits x.sites), .list 1 (lls x.regs), .list 1 (lays x.cells)], .agg [.int .i64 (f : Int), .int .i64 b]] (.list 1 []) := by
 have i1 : ¬ (f : Int) < 0 := by omega
 refine a3d (res := [.tmp 6]) 15 139 [69, 117, 116, 115, 127, 126, 125] (fun d ix => 0 :: d :: ix) (fn := Tryz.f18) (by kernel_rfl) (by rfl) (by rfl) (by rfl) (by simp) (by decide) ?_
 repeat' first
  | with_reducible first | refine a0u (id := 1) 35 a0m (by kernel_rfl) fun K hK => ?_ | refine stp ?_
  | (with_reducible refine stpK ?_; intro K hK)
  | (with_reducible refine stpC ?_; intro T E hT hE)
  | (with_reducible refine stp2 ?_ ?_ <;> intro h)
  | with_reducible first | refine a0p rfl ?_ | refine a1h (a5d hb hx) (by simp [nls, nl, *, NLXB]) ?_ | refine hpc (a5d hb hx) (by simp [nls, nl, *, NLXB]) ?_ | refine a1r rfl (Nat.le_of_ble_eq_true rfl) a0r ?_ | refine a1r rfl (Nat.le_of_ble_eq_true rfl) (a0q (by simp [HPXB, ext, upd, *])) ?_ | refine a1s (by decide) (by kernel_rfl) ?_ | refine a0x (by decide) ?_
  | (with_reducible refine Kont.go hK ?_; clear hK K)
  | ((with_reducible first | refine KT.go hT ?_ | refine KT.go hE ?_); clear hT hE T E)
  | simp [*, -List.all_flatten, -List.all_eq_true, DEFB, LENB, asR, a0w, a2t, List.take_length]
theorem acN3 {p : Pg} (hb : PgB p) {x : Pts} (hx : PtB 2000000 x) {f : Nat} (hf : f < p.funcs.length) {b : Int} (h : b < 0) : PC Tryz.prog Gl 18 [.agg [.list 4 (fns p.funcs), .list 2 (gbs p.globals), .list 1 (lays p.layouts), .int .i64 p.main], .agg [.list 2 (sits x.sites), .list 1 (lls x.regs), .list 1 (lays x.cells)], .agg [.int .i64 (f : Int), .int .i64 b]] (.list 1 []) := by
 have i1 : ¬ (f : Int) < 0 := by omega
 have i3 : ¬ p.funcs.length <= f := by omega
 refine a3d (res := [.tmp 6]) 15 139 [69, 117, 116, 115, 127, 126, 125] (fun d ix => 0 :: d :: ix) (fn := Tryz.f18) (by kernel_rfl) (by rfl) (by rfl) (by rfl) (by simp) (by decide) ?_
 repeat' first
  | with_reducible first | refine a0u (id := 1) 35 a0m (by kernel_rfl) fun K hK => ?_ | refine stp ?_
  | (with_reducible refine stpK ?_; intro K hK)
  | (with_reducible refine stpC ?_; intro T E hT hE)
  | (with_reducible refine stp2 ?_ ?_ <;> intro h)
  | with_reducible first | refine a0p rfl ?_ | refine a1h (a5d hb hx) (by simp [nls, nl, *, NLXB]) ?_ | refine hpc (a5d hb hx) (by simp [nls, nl, *, NLXB]) ?_ | refine a1r rfl (Nat.le_of_ble_eq_true rfl) a0r ?_ | refine a1r rfl (Nat.le_of_ble_eq_true rfl) (a0q (by simp [HPXB, ext, upd, *])) ?_ | refine a1s (by decide) (by kernel_rfl) ?_ | refine a0x (by decide) ?_
  | (with_reducible refine Kont.go hK ?_; clear hK K)
  | ((with_reducible first | refine KT.go hT ?_ | refine KT.go hE ?_); clear hT hE T E)
  | simp [*, -List.all_flatten, -List.all_eq_true, DEFB, LENB, asR, a0w, a2t, List.take_length]
theorem acN4 {p : Pg} (hb : PgB p) {x : Pts} (hx : PtB 2000000 x) {f pc : Nat} (hf : f < p.funcs.length) (h : p.funcs[f].code.length <= pc) : PC Tryz.prog Gl 18 [.agg [.list 4 (fns p.funcs), .list 2 (gbs p.globals), .list 1 (lays p.layouts), .int .i64 p.main], .agg [.list 2 (sits x.sites), .list 1 (lls x.regs), .list 1 (lays x.cells)], .agg [.int .i64 (f : Int), .int .i64 (pc : Int)]] (.list 1 []) := by
 have i1 : ¬ (f : Int) < 0 := by omega
 have i2 : ¬ (pc : Int) < 0 := by omega
 have i3 : ¬ p.funcs.length <= f := by omega
 refine a3d (res := [.tmp 6]) 15 139 [69, 117, 116, 115, 127, 126, 125] (fun d ix => 0 :: d :: ix) (fn := Tryz.f18) (by kernel_rfl) (by rfl) (by rfl) (by rfl) (by simp) (by decide) ?_
 repeat' first
  | with_reducible first | refine a0u (id := 1) 35 a0m (by kernel_rfl) fun K hK => ?_ | refine stp ?_
  | (with_reducible refine stpK ?_; intro K hK)
  | (with_reducible refine stpC ?_; intro T E hT hE)
  | (with_reducible refine stp2 ?_ ?_ <;> intro h)
  | with_reducible first | refine a0p rfl ?_ | refine a1h (a5d hb hx) (by simp [nls, nl, *, NLXB]) ?_ | refine hpc (a5d hb hx) (by simp [nls, nl, *, NLXB]) ?_ | refine a1r rfl (Nat.le_of_ble_eq_true rfl) a0r ?_ | refine a1r rfl (Nat.le_of_ble_eq_true rfl) (a0q (by simp [HPXB, ext, upd, *])) ?_ | refine a1s (by decide) (by kernel_rfl) ?_ | refine a0x (by decide) ?_
  | (with_reducible refine Kont.go hK ?_; clear hK K)
  | ((with_reducible first | refine KT.go hT ?_ | refine KT.go hE ?_); clear hT hE T E)
  | simp [*, -List.all_flatten, -List.all_eq_true, DEFB, LENB, asR, a0w, a2t, List.take_length]
theorem acN5 {p : Pg} (hb : PgB p) {x : Pts} (hx : PtB 2000000 x) {f pc : Nat} (hf : f < p.funcs.length) (hcd : pc < p.funcs[f].code.length) (hs : a2y p x = false) : PC Tryz.prog Gl 18 [.agg [.list 4 (fns p.funcs), .list 2 (gbs p.globals), .list 1 (lays p.layouts), .int .i64 p.main], .agg [.list 2 (sits x.sites), .list 1 (lls x.regs), .list 1 (lays x.cells)], .agg [.int .i64 (f : Int), .int .i64 (pc : Int)]] (.list 1 []) := by
 have i1 : ¬ (f : Int) < 0 := by omega
 have i2 : ¬ (pc : Int) < 0 := by omega
 have i3 : ¬ p.funcs.length <= f := by omega
 have i4 : ¬ p.funcs[f].code.length <= pc := by omega
 refine a3d (res := [.tmp 6]) 15 139 [69, 117, 116, 115, 127, 126, 125] (fun d ix => 0 :: d :: ix) (fn := Tryz.f18) (by kernel_rfl) (by rfl) (by rfl) (by rfl) (by simp) (by decide) ?_
 repeat' first
  | with_reducible first | refine a0u (id := 1) 35 a0m (by kernel_rfl) fun K hK => ?_ | refine stp ?_
  | (with_reducible refine stpK ?_; intro K hK)
  | (with_reducible refine stpC ?_; intro T E hT hE)
  | (with_reducible refine stp2 ?_ ?_ <;> intro h)
  | with_reducible first | refine a0p rfl ?_ | refine a1h (a5d hb hx) (by simp [nls, nl, *, NLXB]) ?_ | refine hpc (a5d hb hx) (by simp [nls, nl, *, NLXB]) ?_ | refine a1r rfl (Nat.le_of_ble_eq_true rfl) a0r ?_ | refine a1r rfl (Nat.le_of_ble_eq_true rfl) (a0q (by simp [HPXB, ext, upd, *])) ?_ | refine a1s (by decide) (by kernel_rfl) ?_ | refine a0x (by decide) ?_
  | (with_reducible refine Kont.go hK ?_; clear hK K)
  | ((with_reducible first | refine KT.go hT ?_ | refine KT.go hE ?_); clear hT hE T E)
  | simp [*, -List.all_flatten, -List.all_eq_true, DEFB, LENB, asR, a0w, a2t, List.take_length]
@[simp] theorem g0n : arE Tryz.prog 48 = Option.none := by kernel_rfl
@[simp] theorem g0j : arE Tryz.prog 77 = Option.none := by kernel_rfl
@[simp] theorem f5d : fnOk Tryz.prog 22 = Bool.true := by kernel_rfl
@[simp] theorem e3g : a7e Tryz.prog 48 = (Option.some ((0, 1) :: ((1, 1) :: ((2, 1) :: ((3, 1) :: []))))) := by kernel_rfl
@[simp] theorem e3c : a7e Tryz.prog 77 = (Option.some ((0, 1) :: ((1, 1) :: []))) := by kernel_rfl
theorem e2k {P : Program} {Gq : List (Nat × List Value)} {f : FuncId} {A A' : List FV} {r : FV} (h : PC P Gq f A r) (ha : asRs A' A) : PC P Gq f A' r :=
 fun w F m vs hF hG hv hH => h w F m vs hF hG (hv.asR ha) hH
theorem e5n (n : Nat) {P : Program} {res : List ResultVar} {r y : FV} {s : Fs} {l : List FV} (hr : resL P s res = some l) (hy : frz s.H n (a3b l) = some y) (ha : asR y r) : PEnd P res r .ret s := ⟨.inr rfl, s, Wk.refl s, l, hr, n, y, hy, ha⟩
theorem c9i  : PC Tryz.prog Gl 22 [] (.agg [.list 4 [[.str ⟨⟨[109, 97, 105, 110]⟩⟩, .int .i64 0, .int .i64 3, .list 5 [[.int .i64 21, .int .i64 0, .int .i64 0, .int .i64 0, .int .i64 0], [.int .i64 18, .int .i64 1, .int .i64 0, .int .i64 0, .int .i64 0], [.int .i64 34, .int .i64 1, .int .i64 0, .int .i64 0, .int .i64 0], [.int .i64 33, .int .i64 2, .int .i64 1, .int .i64 0, .int .i64 0], [.int .i64 30, .int .i64 (-1), .int .i64 0, .int .i64 0, .int .i64 0]]]], .list 2 [[.str ⟨⟨[120]⟩⟩, .int .i64 1]], .list 1 [[.list 1 [[.int .i64 0]]]], .int .i64 0]) := by
 refine a3d (res := [.cell 0 26]) 1 14 [] (fun d ix => 0 :: d :: ix) (fn := Tryz.f22) (by kernel_rfl) (by rfl) (by rfl) (by rfl) (by simp) (by decide) ?_
 repeat' first
  | (refine e5n 60 rfl rfl ?_)
  | with_reducible refine stp ?_
  | (with_reducible refine stpK ?_; intro K hK)
  | (with_reducible refine stpC ?_; intro T E hT hE)
  | (with_reducible refine stp2 ?_ ?_ <;> intro h)
  | with_reducible first | refine a0p rfl ?_ | refine a1r rfl (Nat.le_of_ble_eq_true rfl) a0r ?_ | refine a1r rfl (Nat.le_of_ble_eq_true rfl) (a0q (by simp [HPXB, ext, upd, *])) ?_ | refine a1s (by decide) (by kernel_rfl) ?_ | refine a0x (by decide) ?_
  | (with_reducible refine Kont.go hK ?_; clear hK K)
  | ((with_reducible first | refine KT.go hT ?_ | refine KT.go hE ?_); clear hT hE T E)
  | simp [*, -List.all_flatten, -List.all_eq_true, DEFB, asR, frz, frzs, frzR, frzN]
end Go.Ge
