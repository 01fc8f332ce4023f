/- Parts of the proof. -/
import Derived.Test.YtfhhgjbcenhdeaaGreatDoorF19
set_option linter.unusedSimpArgs false
set_option linter.unusedVariables false
namespace Go.Je
open Go Go.FM Go.Gv Go.Proofs
set_option maxRecDepth 100000
set_option maxHeartbeats 40000000
theorem c1m {nm : ByteArray} {pa rg : Int} {c : List Ins} (hc : CodeOk c) : PC Tryz.prog Gl 87 [.agg [.str nm, .int .i64 pa, .int .i64 rg, .list 5 (inss c)]] (.list 1 (a2h (a3e c))) := by
 have h1000 := hc.n1000
 have hs1 : (c.length : Int) + 1 <= 4611686018427387904 := by omega
 have hs2 : (c.length : Int) + 1 <= 281474976710656 := by omega
 have hs0 : (0 : Int) <= (c.length : Int) + 1 := by omega
 have wl1 : IntKind.wrap .i64 ((c.length : Int) + 1) = (c.length : Int) + 1 := by rw [IntKind.wrap_i64]; omega
 have tl1 : ((c.length : Int) + 1).toNat = c.length + 1 := by omega
 have hm0 : (a2h (List.replicate (c.length + 1) false)).modify 0 (fun r => FV.bool true :: r.tail) = a2h (ldA c [0] 0) := a3g _ 0 true (by simp)
 have hp1 : (0 : Int) < (c.length : Int) + 1 := by omega
 refine a3s (res := [.tmp 2]) 6 46 [26] (fun d ix => 0 :: d :: ix) (fn := Tryz.f87) (by kernel_rfl) (by rfl) (by rfl) (by rfl) (by simp) (by decide) ?_
 repeat' first
  | (with_reducible refine f4x (id := 11) [[0, 10]] 8 a0y (by kernel_rfl) fun K hK => ?_)
  | (refine e9s [0, 10] (.cells 4 1 (a2h (ldA c [0] k))) (.cells 4 1 (a2h ((ldA c [0] k).set (k + 1) true))) 4 (.tmp 37) (.const (.bool true)) 1 (k + 1) 0 (by decide) (by kernel_rfl) ?_ (by rfl) (by rfl) (by simp) ?_ ?_ ?_ ?_ ?_ ?_; (focus (simp [a2d]; done)); (focus (simp [rmvs, a5p]; done)); (focus (simp [HPXB]; done)); (focus (first | rfl | (simp [rv, Fs.get, lk]; done))); (focus (simp [DEFB, a7v, upd, cv, cv1, FV.cellV, FV.cellsL, FV.storable, a0d, a4s, a3u, rv, hll, *]; done)); (focus (intro j Aj h1 h2; have h3 := List.mem_of_getElem? h1; simp at h3; subst h3; exact absurd rfl h2)))
  | with_reducible first | refine e9t (by decide) rfl (by kernel_rfl) (by simp [a2d]) rfl ?_ | refine e7t rfl (lbR rfl) ?_ | refine d7m (by decide) ?_
  | ((with_reducible refine a1a ?_); refine a1q (σ := {k : Nat // k <= c.length}) (fun y => [(4, .int .i64 (y.1 : Int)), (5, .undef)]) [] (fun y => []) [[0, 5]] (fun y => [([0, 10], .cells 4 1 (a2h (ldA c [0] y.1)))]) (fun y => noH) (fun y => c.length - y.1) ⟨0, by simp⟩ (gk3 (j := 0) [] (Bs.pc _) ?_ ?_ ?_ ?_ ?_ ?_ ?_) ?_; (iterate 7 (focus (first | rfl | (simp [LPXB, *, SIMB, hdN, injB, a0d, a0f, a1s, f7q]; done)))); rintro ⟨k, hk⟩; simp only [lpS, LPXB]; (try dsimp only at hk); rcases a0z hk with hlt | ⟨hlt, e⟩; rotate_left; subst e; have hle : ldA c [0] c.length = a3e c := rfl; have hlz := a8f c; have htk : (a3e c).take (c.length + 1) = a3e c := tL_ (by rw [a8f]; exact nr_ _); rotate_left; have hll := c0d c [0] k; have wk := wli hlt (by omega); have k1 : ((k : Int) + 1).toNat = k + 1 := (by omega); have k2 : (0 : Int) <= (k : Int) + 1 := (by omega); have k3 : (k : Int) + 1 < (c.length : Int) + 1 := (by omega); have k4 : (k : Int) < (c.length : Int) := (by omega); by_cases hJ : (c[k]'hlt).op = 16 \/ (c[k]'hlt).op = 17 \/ (c[k]'hlt).op = 45; have hs : ldA c [0] (k + 1) = ((ldA c [0] k).set (k + 1) true).set ((c[k]'hlt).c).toNat true := (by rw [ld_j hlt hJ]; exact e5y _ _ _); obtain ⟨j0, j1, _⟩ := hc.tgt k hlt hJ; have j2 : (c[k]'hlt).c < (c.length : Int) + 1 := (by omega); have hb1 := a3g (ldA c [0] k) (k + 1) true (by omega); have hb2 := a3g ((ldA c [0] k).set (k + 1) true) ((c[k]'hlt).c).toNat true (by rw [List.length_set]; omega); rw [<- hs] at hb2; rotate_left; by_cases h30 : (c[k]'hlt).op = 30; have hs := ld_r (b := [0]) hlt hJ h30; have hb1 := a3g (ldA c [0] k) (k + 1) true (by omega); rw [<- hs] at hb1; rotate_left; have hs := ld_n (b := [0]) hlt hJ h30; rotate_left)
  | ((with_reducible refine a0q ?_); refine a1b (⟨k + 1, by omega⟩) (gk3 (j := 0) [] (Bs.pc _) ?_ ?_ ?_ ?_ ?_ ?_ ?_) ?_; (iterate 7 (focus (first | rfl | (simp [LPXB, *, SIMB, hdN, injB, a0d, a0f, a1s]; done)))); (focus (dsimp only; omega)))
  | with_reducible first | refine stp ?_ | refine stpK ?_; intro K hK | refine stpC ?_; intro T E hT hE | refine stp2 ?_ ?_ <;> intro h | refine a0g rfl ?_ | refine a0j rfl (lbR rfl) a0i ?_ | refine a0j rfl (lbR rfl) (a0h (by simp [HPXB, a1w, ext, upd, *])) ?_ | refine a1g (by decide) (by kernel_rfl) ?_ | refine a0o (by decide) ?_ | refine Kont.go hK ?_; clear hK K | refine KT.go hT ?_; clear hT hE T E | refine KT.go hE ?_; clear hT hE T E
  | simp [*, -List.all_flatten, -List.all_eq_true, DEFB, LENB, asR, a1w, a0d, a4s, a3u, a0f, a1s, a4k, a6m, b6m, Ins.row, rmvs, rmv, a5p]
 all_goals first
  | (exfalso; omega)
  | trace_state
theorem c6a {nm : ByteArray} {pa rg : Int} {c : List Ins} (hc : CodeOk c) {i : Nat} (hi : i < c.length) : PC Tryz.prog Gl 48 [.agg [.str nm, .int .i64 pa, .int .i64 rg, .list 5 (inss c)], .int .i64 i] (.int .i64 (hd c i)) := by
 have h1000 := hc.n1000
 refine a3s (res := [.tmp 4]) 5 26 [] (fun d ix => 0 :: d :: ix) (fn := Tryz.f48) (by kernel_rfl) (by rfl) (by rfl) (by rfl) (by simp) (by decide) ?_
 repeat' first
  | ((with_reducible refine a1a ?_); refine a1q (σ := {k : Nat // k <= i /\ hd c k = hd c i}) (fun y => [(1, .int .i64 (y.1 : Int))]) [] (fun y => []) [] (fun y => []) (fun y => noH) (fun y => y.1) ⟨i, nr_ _, rfl⟩ (gk3 (j := 0) [] (Bs.pc _) ?_ ?_ ?_ ?_ ?_ ?_ ?_) ?_; (iterate 7 (focus (first | rfl | (simp [LPXB, *, SIMB, hdN, injB]; done)))); rintro ⟨k, hk, he⟩; simp only [lpS, LPXB]; (try dsimp only at hk); have hkl : k < c.length := (by omega); have wk : IntKind.wrap .i64 (k : Int) = (k : Int) := (by rw [IntKind.wrap_i64]; omega); rcases Nat.eq_zero_or_pos k with e0 | h0; subst e0; have hz : hd c i = 0 := (by rw [<- he]; rfl); rotate_left; by_cases o51 : c[k].op = 51; obtain ⟨m, rfl⟩ : ∃ m, k = m + 1 := ⟨k - 1, by omega⟩; have wm : IntKind.wrap .i64 (m : Int) = (m : Int) := (by rw [IntKind.wrap_i64]; omega); have p1 : (0 : Int) <= (m : Int) + 1 := (by omega); have p2 : (0 : Int) < (m : Int) + 1 := (by omega); have p3 : (m : Int) + 1 < (c.length : Int) := (by omega); have hm : hd c m = hd c i := (by rw [<- he, hd_s hkl o51]); rotate_left; have hz : hd c i = k := (by rw [<- he]; exact a6y hkl o51); have h0' : (0 : Int) < (k : Int) := (by omega); rotate_left)
  | ((with_reducible refine a0q ?_); refine a1b (⟨m, by omega, hm⟩) (gk3 (j := 0) [] (Bs.pc _) ?_ ?_ ?_ ?_ ?_ ?_ ?_) ?_; (iterate 7 (focus (first | rfl | (simp [LPXB, *, SIMB, hdN, injB]; done)))); (focus (dsimp only; omega)))
  | with_reducible first | refine stp ?_ | refine stpK ?_; intro K hK | refine stpC ?_; intro T E hT hE | refine stp2 ?_ ?_ <;> intro h | refine a0g rfl ?_ | refine a0j rfl (lbR rfl) a0i ?_ | refine a0j rfl (lbR rfl) (a0h (by simp [HPXB, ext, upd, *])) ?_ | refine a1g (by decide) (by kernel_rfl) ?_ | refine a0o (by decide) ?_ | refine Kont.go hK ?_; clear hK K | refine KT.go hT ?_; clear hT hE T E | refine KT.go hE ?_; clear hT hE T E
  | simp [*, -List.all_flatten, -List.all_eq_true, DEFB, LENB, asR, a1w, Ins.row]
end Go.Je
