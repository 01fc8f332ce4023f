/- Parts of the proof. -/
import Derived.Test.YtfhhgjbcenhdeaaR25
set_option linter.unusedSimpArgs false
set_option linter.unusedVariables false
namespace Go.He
open Go Go.FM Go.Gv Go.Proofs
set_option maxRecDepth 100000
set_option maxHeartbeats 40000000
theorem c8q {p : Pg} (hp : VOk p) {B : Heap} {Y : Pts} {g : Bool} (hy : Shp p Y) (hB : BsM p 1 B) (o : Int) : FC Try.prog Gl 71 [.ptr [81] 8 0 0, .int .i64 o] (HP [] B (MF p Y g)) (.bool (wrR p Y o)) (HP [] B (MF p Y g)) := by
 have hsv := a2b hp
 have fB : ∀ r, B (1 :: r) = none := fun r => (hB Y g Y g hy hy).fb 1 r (by decide)
 have y3 := hy.rn
 have hi2 : ∀ (L : List (FM.Loc × FO)), inH (HP L B (MF p Y g)) [81] := fun L => a3p a3r
 refine a3s (res := [.tmp 4]) 9 63 [15, 14, 13, 23, 22, 21, 28] (fun d ix => 1 :: d :: ix) (fn := Try.f71) (by kernel_rfl) (by rfl) (by rfl) (by rfl) (by simp) (by decide) ?_
 repeat' first
  | (with_reducible refine a0p (id := 10) 12 a0k (by kernel_rfl) fun K hK => ?_)
  | (with_reducible refine a0p (id := 14) 12 a0k (by kernel_rfl) fun K hK => ?_)
  | ((with_reducible refine a1o ?_); refine a2h (σ := {i : Nat // i <= p.funcs.length /\ noW p Y o i 0}) (fun y => [(5, .undef), (6, .undef), (7, .undef), (8, .undef)]) [14, 13] (fun y => [(15, .int .i64 (y.1 : Int))]) [[1, 6], [1, 8]] (fun y => []) (fun y => MF p Y g) (fun y => p.funcs.length - y.1) ⟨0, by simp, f0b p Y o⟩ (gk3i (j := 1) [] (hB _ _ _ _ hy hy) ?_ ?_ ?_ ?_ ?_ ?_ ?_) ?_; (iterate 7 (focus (first | rfl | (simp [LPXB, *, SIMB, hdN, injB, fB, a2e, a1u, a2d, hdN, a1i, a0w]; done)))); rintro ⟨i, hi, hk⟩; simp only [lpS, LPXB]; (try dsimp only at hi hk); rcases a1l hi with hlt | ⟨hlt, rfl⟩; rotate_left; have e := e2r hk; rotate_left; have wi := wli hlt (by have := hp.nf; omega); have hcv := b8v hp hlt; obtain ⟨y1, y2⟩ := hy.at hlt; have hrr := hp.regs (List.getElem_mem hlt); obtain ⟨nr, hnr⟩ : ∃ nr : Nat, (p.funcs[i]'hlt).regs = (nr : Int) := ⟨(p.funcs[i]'hlt).regs.toNat, by have := hrr.p0; have := hrr.p1; omega⟩; rw [hnr, Int.toNat_natCast] at y2)
  | ((with_reducible refine a1o ?_); refine a2h (σ := {j : Nat // j <= (p.funcs[i]'hlt).code.length /\ noW p Y o i j}) (fun y => [(7, .undef), (8, .undef)]) [22, 21, 15, 14, 13] (fun y => [(23, .int .i64 (y.1 : Int))]) [[1, 8]] (fun y => []) (fun y => MF p Y g) (fun y => (p.funcs[i]'hlt).code.length - y.1) ⟨0, by simp, hk⟩ (gk3i (j := 1) [] (hB _ _ _ _ hy hy) ?_ ?_ ?_ ?_ ?_ ?_ ?_) ?_; (iterate 7 (focus (first | rfl | (simp [LPXB, *, SIMB, hdN, injB, fB, a2e, a1u, a2d, hdN, a1i, a0w]; done)))); rintro ⟨j, hj, hkj⟩; simp only [lpS, LPXB]; (try dsimp only at hj hkj); rcases a1l hj with hlk | ⟨hlk, rfl⟩; have wk := wli hlk (by omega); rcases wr5 ((p.funcs[i]'hlt).code[j]'hlk).op with q1 | ⟨q1, q2⟩ | ⟨q1, q2, q3⟩ | ⟨q1, q2, q3, q4⟩ | ⟨q1, q2, q3, q4⟩; (have hra := a5t hp hlt hlk (by rw [q1]; decide); obtain ⟨r3, r4⟩ := id hra; have r2 : ((p.funcs[i]'hlt).code[j]'hlk).a.toNat < nr := (by omega); have r5 : ((p.funcs[i]'hlt).code[j]'hlk).a < (nr : Int) := (by omega); have hok := hy.rok hlt hra; by_cases hm : o ∈ getS Y (.r i ((p.funcs[i]'hlt).code[j]'hlk).a.toNat); have e := b8j (x := Y) (o := o) hlt hlk (by simp only [wrI]; rw [a7t] at hm; first | exact .inl ⟨by omega, hm⟩ | exact .inr ⟨by omega, hm⟩)); rotate_left; rotate_left; (have hra := a5t hp hlt hlk (by rw [q2]; decide); obtain ⟨r3, r4⟩ := id hra; have r2 : ((p.funcs[i]'hlt).code[j]'hlk).a.toNat < nr := (by omega); have r5 : ((p.funcs[i]'hlt).code[j]'hlk).a < (nr : Int) := (by omega); have hok := hy.rok hlt hra; by_cases hm : o ∈ getS Y (.r i ((p.funcs[i]'hlt).code[j]'hlk).a.toNat); have e := b8j (x := Y) (o := o) hlt hlk (by simp only [wrI]; rw [a7t] at hm; first | exact .inl ⟨by omega, hm⟩ | exact .inr ⟨by omega, hm⟩)); rotate_left; rotate_left; (have hra := a8c hp hlt hlk (by rw [q3]; decide); obtain ⟨r3, r4⟩ := id hra; have r2 : ((p.funcs[i]'hlt).code[j]'hlk).b.toNat < nr := (by omega); have r5 : ((p.funcs[i]'hlt).code[j]'hlk).b < (nr : Int) := (by omega); have hok := hy.rok hlt hra; by_cases hm : o ∈ getS Y (.r i ((p.funcs[i]'hlt).code[j]'hlk).b.toNat); have e := b8j (x := Y) (o := o) hlt hlk (by simp only [wrI]; rw [a7t] at hm; first | exact .inl ⟨by omega, hm⟩ | exact .inr ⟨by omega, hm⟩)); rotate_left; rotate_left; (have hra := a8c hp hlt hlk (by rw [q4]; decide); obtain ⟨r3, r4⟩ := id hra; have r2 : ((p.funcs[i]'hlt).code[j]'hlk).b.toNat < nr := (by omega); have r5 : ((p.funcs[i]'hlt).code[j]'hlk).b < (nr : Int) := (by omega); have hok := hy.rok hlt hra; by_cases hm : o ∈ getS Y (.r i ((p.funcs[i]'hlt).code[j]'hlk).b.toNat); have e := b8j (x := Y) (o := o) hlt hlk (by simp only [wrI]; rw [a7t] at hm; first | exact .inl ⟨by omega, hm⟩ | exact .inr ⟨by omega, hm⟩)); rotate_left; rotate_left)
  | ((with_reducible refine a1j ?_); refine a1w (⟨j + 1, by omega, e9z hkj hlt hlk (by simp only [wrI]; first | (rw [a7t] at hm; rintro (⟨h', hm'⟩ | ⟨h', hm'⟩) <;> first | omega | exact hm hm') | omega)⟩) (gk3i (j := 1) [] (hB _ _ _ _ hy hy) ?_ ?_ ?_ ?_ ?_ ?_ ?_) ?_; (iterate 7 (focus (first | rfl | (simp [LPXB, *, SIMB, hdN, injB, fB, a2e, a1u, a2d, hdN, a1i, a0w]; done)))); (focus (dsimp only; omega)))
  | ((with_reducible refine a1j ?_); refine a1w (⟨i + 1, by omega, f0a hlt hkj⟩) (gk3i (j := 1) [] (hB _ _ _ _ hy hy) ?_ ?_ ?_ ?_ ?_ ?_ ?_) ?_; (iterate 7 (focus (first | rfl | (simp [LPXB, *, SIMB, hdN, injB, fB, a2e, a1u, a2d, hdN, a1i, a0w]; done)))); (focus (dsimp only; omega)))
  | ((with_reducible refine cgH ?_); refine a4z rfl (d0j (t := SL.r i ((p.funcs[i]'hlt).code[j]'hlk).a.toNat) _ hB (by decide) hy hok ?_ ?_) ?_; (focus rfl); (focus (first | rfl | (simp [ninL, ninO, a3m, nins, nin, a0e, a0i, a0a, a1d, a0c, a0b, a2c, mapO, a2f, a1i, a0w, hdN, *]; done))))
  | ((with_reducible refine cgH ?_); refine a4z rfl (d0j (t := SL.r i ((p.funcs[i]'hlt).code[j]'hlk).b.toNat) _ hB (by decide) hy hok ?_ ?_) ?_; (focus rfl); (focus (first | rfl | (simp [ninL, ninO, a3m, nins, nin, a0e, a0i, a0a, a1d, a0c, a0b, a2c, mapO, a2f, a1i, a0w, hdN, *]; done))))
  | ((with_reducible refine d2n (j := 1) (hB _ _ _ _ hy hy) ?_ ?_ ?_ ?_); (focus rfl); (focus rfl); (focus (first | rfl | (simp [*]; done))); focus (first | trivial | (simp [nin, nins, a2u, inH, HPXB]; done)))
  | with_reducible refine stp ?_
  | (with_reducible refine stpK ?_; intro K hK)
  | (with_reducible refine stpC ?_; intro T E hT hE)
  | (with_reducible refine stp2 ?_ ?_ <;> intro h)
  | with_reducible first | refine a0q rfl ?_ | refine a0t rfl (Nat.le_of_ble_eq_true rfl) a0s ?_ | refine a0t rfl (Nat.le_of_ble_eq_true rfl) (a0r (by simp [HPXB, a2d, fB, ext, upd, *])) ?_ | refine a1v (by decide) (by kernel_rfl) ?_ | refine a0x (by decide) ?_
  | (with_reducible refine Kont.go hK ?_; clear hK K)
  | ((with_reducible first | refine KT.go hT ?_ | refine KT.go hE ?_); clear hT hE T E)
  | simp [*, -List.all_flatten, -List.all_eq_true, DEFM, fB, a2e, a1u, a2d, hdN, a1i, a0w, a1m, a0y, a0z, a2n, a2o, a2p, anR, a6m, a6l, a3r, a4g, a3k, MG_t, MG_f, rmvs, a0j, a3c, a0h, a2r, a0b, a0e, FnD.row, Ins.row]
 all_goals first
  | (simp [e2r hk]; done)
  | (have e := b8j (x := Y) (o := o) hlt hlk (by simp only [wrI]; rw [a7t] at hm; first | exact .inl ⟨by omega, hm⟩ | exact .inr ⟨by omega, hm⟩); simp [e]; done)
  | trace_state
theorem e7n {p : Pg} (hp : VOk p) {Y : Pts} (hy : Gv.Form p Y) {B : Heap} (hB : BsP p 2 B) {i j : Nat} (hi : i < p.funcs.length) (hj : j < (p.funcs[i]).code.length) (q18 : ¬ p.funcs[i].code[j].op = 18) (q21 : ¬ p.funcs[i].code[j].op = 21) (q22 : ¬ p.funcs[i].code[j].op = 22) (q23 : ¬ p.funcs[i].code[j].op = 23) (q24 : ¬ p.funcs[i].code[j].op = 24) (q3 : ¬ p.funcs[i].code[j].op = 3) (q19 : ¬ p.funcs[i].code[j].op = 19) (q20 : ¬ p.funcs[i].code[j].op = 20) (q25 : ¬ p.funcs[i].code[j].op = 25) (q33 : ¬ p.funcs[i].code[j].op = 33) (q35 : ¬ p.funcs[i].code[j].op = 35) (q34 : ¬ p.funcs[i].code[j].op = 34) (q36 : ¬ p.funcs[i].code[j].op = 36) (q47 : ¬ p.funcs[i].code[j].op = 47) (q38 : ¬ p.funcs[i].code[j].op = 38) (q48 : ¬ p.funcs[i].code[j].op = 48) (q51 : ¬ p.funcs[i].code[j].op = 51) (q26 : ¬ p.funcs[i].code[j].op = 26) (q28 : ¬ p.funcs[i].code[j].op = 28) (q31 : ¬ p.funcs[i].code[j].op = 31) (q27 : ¬ p.funcs[i].code[j].op = 27) (q29 : ¬ p.funcs[i].code[j].op = 29) (q32 : ¬ p.funcs[i].code[j].op = 32) : FC Try.prog Gl 34 [.agg [.list 4 (fns p.funcs), .list 2 (gbs p.globals), .list 1 (lays p.layouts), .int .i64 p.main], .agg [.list 2 (sits (a0d p)), .sl [91] 1 0 p.funcs.length, .sl [93] 1 0 (a0d p).length], .int .i64 (i : Int), .int .i64 (j : Int)] (HP [] B (PF Y)) (.tup []) (HP [] B (PF (a3l p i j p.funcs[i].code[j] Y))) := by
 have hsv := a2b hp
 have nB : ∀ r, B (2 :: r) = none := fun r => (hB _ _ hy hy).fb 2 r (by decide)
 have nB1 : ∀ r, B (1 :: r) = none := fun r => (hB _ _ hy hy).fb 1 r (by decide)
 have hyn := hy.rn
 have hyc := hy.cn
 have hir : i < Y.regs.length := by omega
 have hst : a3l p i j p.funcs[i].code[j] Y = Y := by simp [a3l, q18, q21, q22, q23, q24, q3, q19, q20, q25, q33, q35, q34, q36, q47, q38, q48, q51, q26, q28, q31, q27, q29, q32, alO]
 have hF := a4a hp hy hi hj
 rw [hst] at hF
 refine a3s (res := []) 19 389 [34] (fun d ix => 2 :: d :: ix) (fn := Try.f34) (by kernel_rfl) (by rfl) (by rfl) (by rfl) (by simp) (by decide) ?_
 repeat' first
  | ((with_reducible refine b0u (j := 2) (hB _ _ hy hF) ?_ ?_ ?_ ?_); (focus rfl); (focus rfl); (focus rfl); focus trivial)
  | with_reducible first | refine a0p (id := 63) 25 a0k (by kernel_rfl) fun K hK => ?_ | refine a0p (id := 59) 7 a0k (by kernel_rfl) fun K hK => ?_ | refine a0p (id := 51) 24 a0k (by kernel_rfl) fun K hK => ?_ | refine a0p (id := 46) 25 a0k (by kernel_rfl) fun K hK => ?_ | refine a0p (id := 38) 17 a0k (by kernel_rfl) fun K hK => ?_ | refine a0p (id := 36) 12 a0k (by kernel_rfl) fun K hK => ?_ | refine a0p (id := 33) 17 a0k (by kernel_rfl) fun K hK => ?_ | refine a0p (id := 30) 13 a0k (by kernel_rfl) fun K hK => ?_ | refine a0p (id := 28) 12 a0k (by kernel_rfl) fun K hK => ?_ | refine a0p (id := 24) 17 a0k (by kernel_rfl) fun K hK => ?_ | refine a0p (id := 21) 15 a0k (by kernel_rfl) fun K hK => ?_ | refine a0p (id := 19) 15 a0k (by kernel_rfl) fun K hK => ?_ | refine a0p (id := 15) 12 a0k (by kernel_rfl) fun K hK => ?_ | refine a0p (id := 14) 11 a0k (by kernel_rfl) fun K hK => ?_ | refine a0p (id := 5) 11 a0k (by kernel_rfl) fun K hK => ?_ | refine stp ?_
  | (with_reducible refine stpK ?_; intro K hK)
  | (with_reducible refine stpC ?_; intro T E hT hE)
  | (with_reducible refine stp2 ?_ ?_ <;> intro h)
  | with_reducible first | refine a0q rfl ?_ | refine a0t rfl (Nat.le_of_ble_eq_true rfl) a0s ?_ | refine a0t rfl (Nat.le_of_ble_eq_true rfl) (a0r (by simp [HPXB, a3a, nB, nB1, ext, upd, *])) ?_ | refine a1v (by decide) (by kernel_rfl) ?_ | refine a0x (by decide) ?_
  | (with_reducible refine Kont.go hK ?_; clear hK K)
  | ((with_reducible first | refine KT.go hT ?_ | refine KT.go hE ?_); clear hT hE T E)
  | simp [*, -List.all_flatten, -List.all_eq_true, DEFB, LENB, a3a, a4b, a3o, a1a, a3y, a3z, a3f, a2u, a7f, a7g, a6p, List.length_set, a2u, a2j, a0g, a2x, a2i]
theorem d5j {P : Program} {Gq : List (Nat × List Value)} {f : FuncId} {A : List FV} {r y : FV} {H' : Heap} {n : Nat} (h : FC P Gq f A noH r H') (hz : frz H' n r = some y) : PC P Gq f A y := by
 intro w F m vs hF hG hv hH
 refine (h w F m vs hF hG hv hH).mono ?_
 rintro e w' ⟨v, F', m', rfl, k1, k2, k3, k4, k5, k6, k7, k8, k9, k10, k11⟩
 obtain ⟨g1, _⟩ := (c2m (m' := m') k5 n).1 _ _ _ hz k4
 refine ⟨v, frzF F' H' m', m', rfl, fun y hy => .inl (k1 y hy), fun y hy => ?_, fun l hl => absurd rfl hl, g1.keep (fun _ h => h) (fun _ _ => rfl) (fun _ h => h.elim) (fun _ _ => rfl), a8o _ _ _, fun l ⟨_, h, _⟩ => (by cases h), k7, fun y hy hn => k8 y hy hn, k9, k10, k11⟩
 rcases hy with hy | ⟨l, hl, rfl⟩
 . exact k2 y hy
 . refine ⟨?_, (k5.old l hl).1⟩
   rcases k6 l hl with ⟨_, ⟨_, h, _⟩, _⟩ | h
   . cases h
   . exact .inr h
theorem d8q {L : List (FM.Loc × FO)} {B : Heap} {Y : Pts} (S : List (Int × Int)) (k : Nat) (hk : Y.regs.length + 10 <= k) : frz (HP L B (PF Y)) k (.agg [.list 2 (sits S), .sl [91] 1 0 Y.regs.length, .sl [93] 1 0 Y.cells.length]) = some (.agg [.list 2 (sits S), .list 1 (lls Y.regs), .list 1 (lays Y.cells)]) := by
 obtain ⟨k, rfl⟩ : ∃ q, k = q + 10 := ⟨k - 10, by omega⟩
 have h1 : frzR (HP L B (PF Y)) (k + 6) (rowN Y.regs) = some (lls Y.regs) := by
  refine c0u (m := 3) _ _ (by simp [a1a, a3h]) (fun i h h' q hq => ?_) (fun hn => ?_) _ (by rw [a1a]; omega)
  . rw [a3y h, a8b h']
    exact d3p (by rwa [a1a] at h) q hq
  . cases e : Y.regs with
    | nil => rfl
    | cons a r => rw [e] at hn; simp [rowN, nlss, nls, nl, List.mapIdx_cons] at hn
 have e1 : (rowN Y.regs).take Y.regs.length = rowN Y.regs := List.take_of_length_le (by rw [a1a]; exact Nat.le_refl _)
 simp [frz, frzs, nls, nl, a1d, a4b, a3o, a1a, e1, h1, d3q, a0g, a0a, a9u, List.take_of_length_le]
theorem bsC0 : BsC noH := ⟨fun _ _ _ => rfl, fun _ => rfl, fun _ => rfl, fun _ => rfl, fun _ _ h => (by cases h), fun _ _ h => (by cases h)⟩
theorem e3n {x : Pts} (hx : PtB 2000000 x) : PC Try.prog Gl 9 [.agg [.list 2 (sits x.sites), .list 1 (lls x.regs), .list 1 (lays x.cells)]] (.agg [.list 2 (sits x.sites), .list 1 (lls x.regs), .list 1 (lays x.cells)]) := by
 have h := d0u hx bsC0
 rw [show HP [] noH noH = noH from d5q.symm] at h
 exact d5j h (d8q x.sites (x.regs.length + 10) (Nat.le_refl _))
end Go.He
