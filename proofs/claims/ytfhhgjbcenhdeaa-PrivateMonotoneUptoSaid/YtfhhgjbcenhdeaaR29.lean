/- Parts of the proof. -/
import Derived.Test.YtfhhgjbcenhdeaaR27
set_option linter.unusedSimpArgs false
set_option linter.unusedVariables false
namespace Go.He
open Go Go.FM Go.Gv Go.Proofs
set_option maxRecDepth 100000
set_option maxHeartbeats 40000000
theorem e7v {L0 L1 : FM.Loc -> Prop} {j : Nat} {B A : Heap} (h : Bs L0 j B A) (hl : ∀ l, L1 l -> L0 l) : Bs L1 j B A := ⟨h.fb, h.fa, h.clo, fun l hl' => h.lent l (hl l hl')⟩
theorem d8p {p : Pg} {x : Pts} (hx : Shp p x) {o : Int} (h0 : 0 < o) {f j : Nat} (hf : f < p.funcs.length) (hj : j < p.funcs[f].code.length) (h : o.toNat < (a0d p).length) (e : (a0d p)[o.toNat] = ((f : Int), (j : Int))) :
 a4x p x o = if p.funcs[f].code[j].op = 23 then [] else if p.funcs[f].code[j].op = 24 /\ wrR p x o = false then [p.funcs[f].code[j].b] else oneP p.funcs p.funcs.length := by
 have hn : b5m p (x.sites.getD o.toNat (0, 0)) = p.funcs[f].code[j] := by
  rw [hx.sites, List.getD_eq_getElem?_getD, List.getElem?_eq_getElem h, Option.getD_some, e]
  simp [b5m, hf, List.getD_eq_getElem?_getD, hj]
 simp only [a4x, h0, if_true, hn]
theorem c6l {p : Pg} {B : Heap} {Y : Pts} {g : Bool} (hy : Shp p Y) (hB : BsM p 2 B) {L : List (FM.Loc × FO)} {r : List Nat} {xs : List (List FV)} {n : Nat} (hN : n = xs.length) (hL : hdN 2 (L.map Prod.fst) = true) (h : updL L B (2 :: r) = some (.cells 3 1 xs)) (hn : nlss xs = true) (hnn : ∀ U : FM.Loc -> Prop, a3m U xs) :
 LFin (HP [] B (MF p Y g)) (fun r1 H1 => r1 = .sl (2 :: r) 1 0 n /\ H1 = HP [(2 :: r, .cells 3 1 xs)] B (MF p Y g)) (HP L B (MF p Y g)) (some [.sl (2 :: r) 1 0 n]) := by
 subst hN
 have hb := (BsM.call (L := [(2 :: r, .cells 3 1 xs)]) 1 hB (by decide) (b := g) hy (by rfl) ⟨hnn _, trivial⟩) Y g Y g hy hy
 refine g1k [(2 :: r, .cells 3 1 xs)] (j := 1) (e7v hb fun l hl => a0w (L := []) hl) (d2z (fun r => (hB Y g Y g hy hy).fb 2 r (by decide)) hL h) ⟨rfl, ?_⟩ ?_
 . rfl
 . exact a1i
theorem c6k {p : Pg} {B : Heap} {Y : Pts} {g : Bool} (hy : Shp p Y) (hB : BsM p 2 B) {r : List Nat} {xs : List (List FV)} {n : Nat} (hN : n = xs.length) {o : Int} (h : FC Try.prog Gl 63 [.ptr [81] 8 0 0, .int .i64 o] (HP [] B (MF p Y g)) (.sl (2 :: r) 1 0 n) (HP [(2 :: r, .cells 3 1 xs)] B (MF p Y g))) (hn : nlss xs = true) : FC Try.prog Gl 63 [.ptr [81] 8 0 0, .int .i64 o] (HP [] B (MF p Y g)) (.list 1 xs) (HP [] B (MF p Y g)) :=
 (show FC Try.prog Gl 63 [.ptr [81] 8 0 0, .int .i64 o] (HP [] B (MF p Y g)) (.sl (2 :: r) 1 0 xs.length) (upd (HP [] B (MF p Y g)) (2 :: r) (.cells 3 1 xs)) by rw [a1u (a2d p Y g 2 r (by decide))]; subst hN; exact h).frozen (a4w.2 ⟨a2d p Y g 2 r (by decide), (hB Y g Y g hy hy).fb 2 r (by decide)⟩) hn (hB Y g Y g hy hy).clo
theorem b4n (l : List Int) (U : FM.Loc -> Prop) : a3m U (ints l) := by
 induction l with
 | nil => trivial
 | cons a l ih => exact ⟨⟨trivial, trivial⟩, ih⟩
theorem c0i {H H1 : Heap} {Φ : FV -> Heap -> Prop} {x : Option (List FV)} (h : LFin H Φ H1 x) : LFin H Φ H1 x := h
theorem b2w {p : Pg} (hp : VOk p) {j : Nat} {B : Heap} {L : List (FM.Loc × FO)} {Y : Pts} {g : Bool} (hy : Shp p Y) (hB : BsM p j B) (h1 : 1 < j) (hl : hdN j (L.map Prod.fst) = true) (hn : ninL (inH (HP L B (MF p Y g))) L) (o : Int) : FC Try.prog Gl 71 [.ptr [81] 8 0 0, .int .i64 o] (HP [] (updL L B) (MF p Y g)) (.bool (wrR p Y o)) (HP [] (updL L B) (MF p Y g)) := c8q hp hy (hB.call 1 h1 hy hl hn) o
theorem e8y {p : Pg} (hp : VOk p) {B : Heap} {Y : Pts} {g : Bool} (hy : Shp p Y) (hB : BsM p 2 B) {o : Int} (h0 : ¬ 0 < o) : FC Try.prog Gl 63 [.ptr [81] 8 0 0, .int .i64 o] (HP [] B (MF p Y g)) (.sl [2, 1000] 1 0 (oneP p.funcs p.funcs.length).length) (HP [([2, 1000], .cells 3 1 (ints (oneP p.funcs p.funcs.length)))] B (MF p Y g)) := by
 have hsv := a2b hp
 have fB : ∀ r, B (2 :: r) = none := fun r => (hB Y g Y g hy hy).fb 2 r (by decide)
 have y3 := hy.rn
 have hi2 : ∀ (L : List (FM.Loc × FO)), inH (HP L B (MF p Y g)) [81] := fun L => a3p a3r
 refine a3s (res := [.tmp 4]) 10 68 [54, 53, 52] (fun d ix => 2 :: d :: ix) (fn := Try.f63) (by kernel_rfl) (by rfl) (by rfl) (by rfl) (by simp) (by decide) ?_
 repeat' first
  | ((with_reducible refine a1o ?_); refine a2h (σ := {i : Nat // i <= p.funcs.length}) (fun y => [(8, .undef), (9, .undef), (7, .sl [2, 1000] 1 0 (oneP p.funcs y.1).length)]) [53, 52] (fun y => [(54, .int .i64 (y.1 : Int))]) [[2, 9]] (fun y => [([2, 1000], .cells 3 1 (ints (oneP p.funcs y.1)))]) (fun y => MF p Y g) (fun y => p.funcs.length - y.1) ⟨0, by simp⟩ (gk3i (j := 2) [] (hB _ _ _ _ hy hy) ?_ ?_ ?_ ?_ ?_ ?_ ?_) ?_; (iterate 7 (focus (first | rfl | (simp [LPXB, *, SIMB, hdN, injB, c2b, fB, a2e, a1u, a2d, hdN, a1i, a0w]; done)))); rintro ⟨i, hi⟩; simp only [lpS, LPXB]; (try dsimp only at hi); rcases a1l hi with hlt | ⟨hlt, rfl⟩; have hnf := hp.nf; have wi := wli hlt (by omega); have hol := b1w p.funcs i; have hs := szn (n := (oneP p.funcs i).length + 1) (k := 8) (by omega) (by decide); have hs2 : (oneP p.funcs i).length + 1 <= 4611686018427387904 := (by omega); by_cases hq : (p.funcs[i]'hlt).params = 1)
  | ((with_reducible refine a1j ?_); refine a1w (⟨i + 1, by omega⟩) (gk3i (j := 2) [] (hB _ _ _ _ hy hy) ?_ ?_ ?_ ?_ ?_ ?_ ?_) ?_; (iterate 7 (focus (have e := b3o hlt hq; first | rfl | (simp [LPXB, *, SIMB, hdN, injB, a2j, fB, a2e, a1u, a2d, hdN, a1i, a0w]; done)))); (focus (dsimp only; omega)))
  | ((with_reducible refine a1j ?_); refine a1w (⟨i + 1, by omega⟩) (gk3i (j := 2) [] (hB _ _ _ _ hy hy) ?_ ?_ ?_ ?_ ?_ ?_ ?_) ?_; (iterate 7 (focus (have e := b7e hlt hq; first | rfl | (simp [LPXB, *, SIMB, hdN, injB, fB, a2e, a1u, a2d, hdN, a1i, a0w]; done)))); (focus (dsimp only; omega)))
  | ((with_reducible refine c0i ?_); refine c6l (g := g) (r := [1000]) (xs := ints (oneP p.funcs p.funcs.length)) hy hB ?_ ?_ ?_ (a0c _) (b4n _); (focus (simp [a0f]; done)); (focus rfl); (focus (simp [a2m, a2s]; done)))
  | with_reducible first | refine a0p (id := 3) 15 a0k (by kernel_rfl) fun K hK => ?_ | refine stp ?_
  | (with_reducible refine stpK ?_; intro K hK)
  | (with_reducible refine stpC ?_; intro T E hT hE)
  | (with_reducible refine stp2 ?_ ?_ <;> intro h)
  | with_reducible first | refine a0q rfl ?_ | refine a0t rfl (Nat.le_of_ble_eq_true rfl) a0s ?_ | refine a0t rfl (Nat.le_of_ble_eq_true rfl) (a0r (by simp [HPXB, a2d, fB, ext, upd, *])) ?_ | refine a1v (by decide) (by kernel_rfl) ?_ | refine a0x (by decide) ?_
  | (with_reducible refine Kont.go hK ?_; clear hK K)
  | ((with_reducible first | refine KT.go hT ?_ | refine KT.go hE ?_); clear hT hE T E)
  | simp [*, -List.all_flatten, -List.all_eq_true, DEFM, LENB, List.take_length, asR, a4e, a2z, FV.cellV, a2j, b0h, fB, a2e, a1u, a2d, hdN, a1i, a0w, a1m, a0y, a0z, a2n, a2o, a2p, anR, a6m, a6l, a3r, a4g, a3k, MG_t, MG_f, rmvs, a0j, a3c, a0h, a2r, a0b, a0e, FnD.row, Ins.row]
theorem e3g {p : Pg} (hp : VOk p) {B : Heap} {Y : Pts} {g : Bool} (hy : Shp p Y) (hB : BsM p 2 B) {o : Int} (h0 : 0 < o) (h1 : o < ((a0d p).length : Int)) {f j : Nat} (hf : f < p.funcs.length) (hj : j < p.funcs[f].code.length) (hol0 : o.toNat < (a0d p).length) (es : (a0d p)[o.toNat] = ((f : Int), (j : Int))) (q1 : (p.funcs[f]'hf).code[j].op = 23) : FC Try.prog Gl 63 [.ptr [81] 8 0 0, .int .i64 o] (HP [] B (MF p Y g)) (.nils) (HP [] B (MF p Y g)) := by
 have hsv := a2b hp
 have fB : ∀ r, B (2 :: r) = none := fun r => (hB Y g Y g hy hy).fb 2 r (by decide)
 have y3 := hy.rn
 have hi2 : ∀ (L : List (FM.Loc × FO)), inH (HP L B (MF p Y g)) [81] := fun L => a3p a3r
 have es1 : ((a0d p)[o.toNat]'hol0).1 = (f : Int) := by rw [es]
 have es2 : ((a0d p)[o.toNat]'hol0).2 = (j : Int) := by rw [es]
 have hge : 0 <= o := by omega
 clear es
 refine a3s (res := [.tmp 4]) 10 68 [54, 53, 52] (fun d ix => 2 :: d :: ix) (fn := Try.f63) (by kernel_rfl) (by rfl) (by rfl) (by rfl) (by simp) (by decide) ?_
 repeat' first
  | ((with_reducible refine d2n (j := 2) (hB _ _ _ _ hy hy) ?_ ?_ ?_ ?_); (focus rfl); (focus rfl); (focus (first | rfl | (simp [*]; done))); focus (first | trivial | (simp [nin, nins, a2u, inH, HPXB]; done)))
  | with_reducible first | refine a0p (id := 3) 15 a0k (by kernel_rfl) fun K hK => ?_ | refine stp ?_
  | (with_reducible refine stpK ?_; intro K hK)
  | (with_reducible refine stpC ?_; intro T E hT hE)
  | (with_reducible refine stp2 ?_ ?_ <;> intro h)
  | with_reducible first | refine a0q rfl ?_ | refine a0t rfl (Nat.le_of_ble_eq_true rfl) a0s ?_ | refine a0t rfl (Nat.le_of_ble_eq_true rfl) (a0r (by simp [HPXB, a2d, fB, ext, upd, *])) ?_ | refine a1v (by decide) (by kernel_rfl) ?_ | refine a0x (by decide) ?_
  | (with_reducible refine Kont.go hK ?_; clear hK K)
  | ((with_reducible first | refine KT.go hT ?_ | refine KT.go hE ?_); clear hT hE T E)
  | simp [*, -List.all_flatten, -List.all_eq_true, DEFM, LENB, List.take_length, asR, a4e, a2z, FV.cellV, a2j, b0h, fB, a2e, a1u, a2d, hdN, a1i, a0w, a1m, a0y, a0z, a2n, a2o, a2p, anR, a6m, a6l, a3r, a4g, a3k, MG_t, MG_f, rmvs, a0j, a3c, a0h, a2r, a0b, a0e, FnD.row, Ins.row]
theorem e3f {p : Pg} (hp : VOk p) {B : Heap} {Y : Pts} {g : Bool} (hy : Shp p Y) (hB : BsM p 2 B) {o : Int} (h0 : 0 < o) (h1 : o < ((a0d p).length : Int)) {f j : Nat} (hf : f < p.funcs.length) (hj : j < p.funcs[f].code.length) (hol0 : o.toNat < (a0d p).length) (es : (a0d p)[o.toNat] = ((f : Int), (j : Int))) (q1 : (p.funcs[f]'hf).code[j].op = 24) (q2 : wrR p Y o = false) : FC Try.prog Gl 63 [.ptr [81] 8 0 0, .int .i64 o] (HP [] B (MF p Y g)) (.sl [2, 47] 1 0 1) (HP [([2, 47], .cells 3 1 ([[.int .i64 (p.funcs[f]'hf).code[j].b]]))] B (MF p Y g)) := by
 have hsv := a2b hp
 have fB : ∀ r, B (2 :: r) = none := fun r => (hB Y g Y g hy hy).fb 2 r (by decide)
 have y3 := hy.rn
 have hi2 : ∀ (L : List (FM.Loc × FO)), inH (HP L B (MF p Y g)) [81] := fun L => a3p a3r
 have es1 : ((a0d p)[o.toNat]'hol0).1 = (f : Int) := by rw [es]
 have es2 : ((a0d p)[o.toNat]'hol0).2 = (j : Int) := by rw [es]
 have hge : 0 <= o := by omega
 clear es
 refine a3s (res := [.tmp 4]) 10 68 [54, 53, 52] (fun d ix => 2 :: d :: ix) (fn := Try.f63) (by kernel_rfl) (by rfl) (by rfl) (by rfl) (by simp) (by decide) ?_
 repeat' first
  | ((with_reducible refine cgH ?_); refine a4z rfl (b2w hp hy hB (by decide) ?_ ?_ _) ?_; (focus rfl); (focus (first | rfl | (simp [ninL, ninO, a3m, nins, nin, a0e, a0i, a0a, a1d, a0c, a0b, a2c, mapO, a2f, a1i, a0w, hdN, *]; done))))
  | ((with_reducible refine c0i ?_); refine c6l (g := g) (r := [47]) (xs := [[.int .i64 (p.funcs[f]'hf).code[j].b]]) hy hB ?_ ?_ ?_ (by rfl) (fun _ => ⟨⟨trivial, trivial⟩, trivial⟩); (focus (simp [a0f]; done)); (focus rfl); (focus (simp [a2m, a2s]; done)))
  | with_reducible first | refine a0p (id := 3) 15 a0k (by kernel_rfl) fun K hK => ?_ | refine stp ?_
  | (with_reducible refine stpK ?_; intro K hK)
  | (with_reducible refine stpC ?_; intro T E hT hE)
  | (with_reducible refine stp2 ?_ ?_ <;> intro h)
  | with_reducible first | refine a0q rfl ?_ | refine a0t rfl (Nat.le_of_ble_eq_true rfl) a0s ?_ | refine a0t rfl (Nat.le_of_ble_eq_true rfl) (a0r (by simp [HPXB, a2d, fB, ext, upd, *])) ?_ | refine a1v (by decide) (by kernel_rfl) ?_ | refine a0x (by decide) ?_
  | (with_reducible refine Kont.go hK ?_; clear hK K)
  | ((with_reducible first | refine KT.go hT ?_ | refine KT.go hE ?_); clear hT hE T E)
  | simp [*, -List.all_flatten, -List.all_eq_true, DEFM, LENB, List.take_length, asR, a4e, a2z, FV.cellV, a2j, b0h, fB, a2e, a1u, a2d, hdN, a1i, a0w, a1m, a0y, a0z, a2n, a2o, a2p, anR, a6m, a6l, a3r, a4g, a3k, MG_t, MG_f, rmvs, a0j, a3c, a0h, a2r, a0b, a0e, FnD.row, Ins.row, ints, List.map]
theorem d6f {p : Pg} (hp : VOk p) {B : Heap} {Y : Pts} {g : Bool} (hy : Shp p Y) (hB : BsM p 2 B) {o : Int} (h0 : 0 < o) (h1 : o < ((a0d p).length : Int)) {f j : Nat} (hf : f < p.funcs.length) (hj : j < p.funcs[f].code.length) (hol0 : o.toNat < (a0d p).length) (es : (a0d p)[o.toNat] = ((f : Int), (j : Int))) (q1 : (p.funcs[f]'hf).code[j].op = 24) (q2 : wrR p Y o = true) : FC Try.prog Gl 63 [.ptr [81] 8 0 0, .int .i64 o] (HP [] B (MF p Y g)) (.sl [2, 1000] 1 0 (oneP p.funcs p.funcs.length).length) (HP [([2, 1000], .cells 3 1 (ints (oneP p.funcs p.funcs.length)))] B (MF p Y g)) := by
 have hsv := a2b hp
 have fB : ∀ r, B (2 :: r) = none := fun r => (hB Y g Y g hy hy).fb 2 r (by decide)
 have y3 := hy.rn
 have hi2 : ∀ (L : List (FM.Loc × FO)), inH (HP L B (MF p Y g)) [81] := fun L => a3p a3r
 have es1 : ((a0d p)[o.toNat]'hol0).1 = (f : Int) := by rw [es]
 have es2 : ((a0d p)[o.toNat]'hol0).2 = (j : Int) := by rw [es]
 have hge : 0 <= o := by omega
 clear es
 refine a3s (res := [.tmp 4]) 10 68 [54, 53, 52] (fun d ix => 2 :: d :: ix) (fn := Try.f63) (by kernel_rfl) (by rfl) (by rfl) (by rfl) (by simp) (by decide) ?_
 repeat' first
  | ((with_reducible refine a1o ?_); refine a2h (σ := {i : Nat // i <= p.funcs.length}) (fun y => [(8, .undef), (9, .undef), (7, .sl [2, 1000] 1 0 (oneP p.funcs y.1).length)]) [53, 52] (fun y => [(54, .int .i64 (y.1 : Int))]) [[2, 9]] (fun y => [([2, 1000], .cells 3 1 (ints (oneP p.funcs y.1)))]) (fun y => MF p Y g) (fun y => p.funcs.length - y.1) ⟨0, by simp⟩ (gk3i (j := 2) [] (hB _ _ _ _ hy hy) ?_ ?_ ?_ ?_ ?_ ?_ ?_) ?_; (iterate 7 (focus (first | rfl | (simp [LPXB, *, SIMB, hdN, injB, c2b, fB, a2e, a1u, a2d, hdN, a1i, a0w]; done)))); rintro ⟨i, hi⟩; simp only [lpS, LPXB]; (try dsimp only at hi); rcases a1l hi with hlt | ⟨hlt, rfl⟩; have hnf := hp.nf; have wi := wli hlt (by omega); have hol := b1w p.funcs i; have hs := szn (n := (oneP p.funcs i).length + 1) (k := 8) (by omega) (by decide); have hs2 : (oneP p.funcs i).length + 1 <= 4611686018427387904 := (by omega); by_cases hq : (p.funcs[i]'hlt).params = 1)
  | ((with_reducible refine a1j ?_); refine a1w (⟨i + 1, by omega⟩) (gk3i (j := 2) [] (hB _ _ _ _ hy hy) ?_ ?_ ?_ ?_ ?_ ?_ ?_) ?_; (iterate 7 (focus (have e := b3o hlt hq; first | rfl | (simp [LPXB, *, SIMB, hdN, injB, a2j, fB, a2e, a1u, a2d, hdN, a1i, a0w]; done)))); (focus (dsimp only; omega)))
  | ((with_reducible refine a1j ?_); refine a1w (⟨i + 1, by omega⟩) (gk3i (j := 2) [] (hB _ _ _ _ hy hy) ?_ ?_ ?_ ?_ ?_ ?_ ?_) ?_; (iterate 7 (focus (have e := b7e hlt hq; first | rfl | (simp [LPXB, *, SIMB, hdN, injB, fB, a2e, a1u, a2d, hdN, a1i, a0w]; done)))); (focus (dsimp only; omega)))
  | ((with_reducible refine cgH ?_); refine a4z rfl (b2w hp hy hB (by decide) ?_ ?_ _) ?_; (focus rfl); (focus (first | rfl | (simp [ninL, ninO, a3m, nins, nin, a0e, a0i, a0a, a1d, a0c, a0b, a2c, mapO, a2f, a1i, a0w, hdN, *]; done))))
  | ((with_reducible refine c0i ?_); refine c6l (g := g) (r := [1000]) (xs := ints (oneP p.funcs p.funcs.length)) hy hB ?_ ?_ ?_ (a0c _) (b4n _); (focus (simp [a0f]; done)); (focus rfl); (focus (simp [a2m, a2s]; done)))
  | with_reducible first | refine a0p (id := 3) 15 a0k (by kernel_rfl) fun K hK => ?_ | refine stp ?_
  | (with_reducible refine stpK ?_; intro K hK)
  | (with_reducible refine stpC ?_; intro T E hT hE)
  | (with_reducible refine stp2 ?_ ?_ <;> intro h)
  | with_reducible first | refine a0q rfl ?_ | refine a0t rfl (Nat.le_of_ble_eq_true rfl) a0s ?_ | refine a0t rfl (Nat.le_of_ble_eq_true rfl) (a0r (by simp [HPXB, a2d, fB, ext, upd, *])) ?_ | refine a1v (by decide) (by kernel_rfl) ?_ | refine a0x (by decide) ?_
  | (with_reducible refine Kont.go hK ?_; clear hK K)
  | ((with_reducible first | refine KT.go hT ?_ | refine KT.go hE ?_); clear hT hE T E)
  | simp [*, -List.all_flatten, -List.all_eq_true, DEFM, LENB, List.take_length, asR, a4e, a2z, FV.cellV, a2j, b0h, fB, a2e, a1u, a2d, hdN, a1i, a0w, a1m, a0y, a0z, a2n, a2o, a2p, anR, a6m, a6l, a3r, a4g, a3k, MG_t, MG_f, rmvs, a0j, a3c, a0h, a2r, a0b, a0e, FnD.row, Ins.row]
theorem e8x {p : Pg} (hp : VOk p) {B : Heap} {Y : Pts} {g : Bool} (hy : Shp p Y) (hB : BsM p 2 B) {o : Int} (h0 : 0 < o) (h1 : o < ((a0d p).length : Int)) {f j : Nat} (hf : f < p.funcs.length) (hj : j < p.funcs[f].code.length) (hol0 : o.toNat < (a0d p).length) (es : (a0d p)[o.toNat] = ((f : Int), (j : Int))) (q1 : ¬ (p.funcs[f]'hf).code[j].op = 23) (q2 : ¬ (p.funcs[f]'hf).code[j].op = 24) : FC Try.prog Gl 63 [.ptr [81] 8 0 0, .int .i64 o] (HP [] B (MF p Y g)) (.sl [2, 1000] 1 0 (oneP p.funcs p.funcs.length).length) (HP [([2, 1000], .cells 3 1 (ints (oneP p.funcs p.funcs.length)))] B (MF p Y g)) := by
 have hsv := a2b hp
 have fB : ∀ r, B (2 :: r) = none := fun r => (hB Y g Y g hy hy).fb 2 r (by decide)
 have y3 := hy.rn
 have hi2 : ∀ (L : List (FM.Loc × FO)), inH (HP L B (MF p Y g)) [81] := fun L => a3p a3r
 have es1 : ((a0d p)[o.toNat]'hol0).1 = (f : Int) := by rw [es]
 have es2 : ((a0d p)[o.toNat]'hol0).2 = (j : Int) := by rw [es]
 have hge : 0 <= o := by omega
 clear es
 refine a3s (res := [.tmp 4]) 10 68 [54, 53, 52] (fun d ix => 2 :: d :: ix) (fn := Try.f63) (by kernel_rfl) (by rfl) (by rfl) (by rfl) (by simp) (by decide) ?_
 repeat' first
  | ((with_reducible refine a1o ?_); refine a2h (σ := {i : Nat // i <= p.funcs.length}) (fun y => [(8, .undef), (9, .undef), (7, .sl [2, 1000] 1 0 (oneP p.funcs y.1).length)]) [53, 52] (fun y => [(54, .int .i64 (y.1 : Int))]) [[2, 9]] (fun y => [([2, 1000], .cells 3 1 (ints (oneP p.funcs y.1)))]) (fun y => MF p Y g) (fun y => p.funcs.length - y.1) ⟨0, by simp⟩ (gk3i (j := 2) [] (hB _ _ _ _ hy hy) ?_ ?_ ?_ ?_ ?_ ?_ ?_) ?_; (iterate 7 (focus (first | rfl | (simp [LPXB, *, SIMB, hdN, injB, c2b, fB, a2e, a1u, a2d, hdN, a1i, a0w]; done)))); rintro ⟨i, hi⟩; simp only [lpS, LPXB]; (try dsimp only at hi); rcases a1l hi with hlt | ⟨hlt, rfl⟩; have hnf := hp.nf; have wi := wli hlt (by omega); have hol := b1w p.funcs i; have hs := szn (n := (oneP p.funcs i).length + 1) (k := 8) (by omega) (by decide); have hs2 : (oneP p.funcs i).length + 1 <= 4611686018427387904 := (by omega); by_cases hq : (p.funcs[i]'hlt).params = 1)
  | ((with_reducible refine a1j ?_); refine a1w (⟨i + 1, by omega⟩) (gk3i (j := 2) [] (hB _ _ _ _ hy hy) ?_ ?_ ?_ ?_ ?_ ?_ ?_) ?_; (iterate 7 (focus (have e := b3o hlt hq; first | rfl | (simp [LPXB, *, SIMB, hdN, injB, a2j, fB, a2e, a1u, a2d, hdN, a1i, a0w]; done)))); (focus (dsimp only; omega)))
  | ((with_reducible refine a1j ?_); refine a1w (⟨i + 1, by omega⟩) (gk3i (j := 2) [] (hB _ _ _ _ hy hy) ?_ ?_ ?_ ?_ ?_ ?_ ?_) ?_; (iterate 7 (focus (have e := b7e hlt hq; first | rfl | (simp [LPXB, *, SIMB, hdN, injB, fB, a2e, a1u, a2d, hdN, a1i, a0w]; done)))); (focus (dsimp only; omega)))
  | ((with_reducible refine cgH ?_); refine a4z rfl (b2w hp hy hB (by decide) ?_ ?_ _) ?_; (focus rfl); (focus (first | rfl | (simp [ninL, ninO, a3m, nins, nin, a0e, a0i, a0a, a1d, a0c, a0b, a2c, mapO, a2f, a1i, a0w, hdN, *]; done))))
  | ((with_reducible refine c0i ?_); refine c6l (g := g) (r := [1000]) (xs := ints (oneP p.funcs p.funcs.length)) hy hB ?_ ?_ ?_ (a0c _) (b4n _); (focus (simp [a0f]; done)); (focus rfl); (focus (simp [a2m, a2s]; done)))
  | with_reducible first | refine a0p (id := 3) 15 a0k (by kernel_rfl) fun K hK => ?_ | refine stp ?_
  | (with_reducible refine stpK ?_; intro K hK)
  | (with_reducible refine stpC ?_; intro T E hT hE)
  | (with_reducible refine stp2 ?_ ?_ <;> intro h)
  | with_reducible first | refine a0q rfl ?_ | refine a0t rfl (Nat.le_of_ble_eq_true rfl) a0s ?_ | refine a0t rfl (Nat.le_of_ble_eq_true rfl) (a0r (by simp [HPXB, a2d, fB, ext, upd, *])) ?_ | refine a1v (by decide) (by kernel_rfl) ?_ | refine a0x (by decide) ?_
  | (with_reducible refine Kont.go hK ?_; clear hK K)
  | ((with_reducible first | refine KT.go hT ?_ | refine KT.go hE ?_); clear hT hE T E)
  | simp [*, -List.all_flatten, -List.all_eq_true, DEFM, LENB, List.take_length, asR, a4e, a2z, FV.cellV, a2j, b0h, fB, a2e, a1u, a2d, hdN, a1i, a0w, a1m, a0y, a0z, a2n, a2o, a2p, anR, a6m, a6l, a3r, a4g, a3k, MG_t, MG_f, rmvs, a0j, a3c, a0h, a2r, a0b, a0e, FnD.row, Ins.row]
theorem c1t {p : Pg} (hp : VOk p) {B : Heap} {Y : Pts} {g : Bool} (hy : Shp p Y) (hB : BsM p 2 B) {o : Int} (h1 : o < ((a0d p).length : Int)) : FC Try.prog Gl 63 [.ptr [81] 8 0 0, .int .i64 o] (HP [] B (MF p Y g)) (.list 1 (ints (a4x p Y o))) (HP [] B (MF p Y g)) := by
 by_cases h0 : 0 < o
 . obtain ⟨hol0, f, hf, j, hj, es⟩ := d0z p h0 h1
   have hfu := d8p hy h0 hf hj hol0 es
   by_cases q1 : p.funcs[f].code[j].op = 23
   . rw [hfu, if_pos q1]
     exact (e3g hp hy hB h0 h1 hf hj hol0 es q1).asR' (.inr ⟨1, rfl⟩)
   . by_cases q2 : p.funcs[f].code[j].op = 24
     . cases q3 : wrR p Y o
       . rw [hfu, if_neg q1, if_pos ⟨q2, q3⟩]
         exact c6k (xs := ints [p.funcs[f].code[j].b]) hy hB (by simp [a0f]) (e3f hp hy hB h0 h1 hf hj hol0 es q2 q3) (a0c _)
       . rw [hfu, if_neg q1, if_neg (by rw [q3]; simp)]
         exact c6k hy hB (by simp [a0f]) (d6f hp hy hB h0 h1 hf hj hol0 es q2 q3) (a0c _)
     . rw [hfu, if_neg q1, if_neg fun h => q2 h.1]
       exact c6k hy hB (by simp [a0f]) (e8x hp hy hB h0 h1 hf hj hol0 es q1 q2) (a0c _)
 . rw [e1s h0]
   exact c6k hy hB (by simp [a0f]) (e8y hp hy hB h0) (a0c _)
theorem e5q (a b : Int) (off : Nat) : ∀ (l : List (Int × Int)) (g : Nat -> Nat) (k : Nat), a9m Try.prog 50 (.agg [.int .i64 a, .int .i64 b]) (l.mapIdx fun i s => (FV.agg [.int .i64 s.1, .int .i64 s.2], FV.int .i64 ((i : Int) + (off : Int)), g i)) k = some ((l.findIdx? (fun y => decide (y = (a, b)))).map fun n => (k + n, FV.int .i64 ((n : Int) + (off : Int))))
 | [], _, _ => rfl
 | s :: l, g, k => by
   have ih := e5q a b (off + 1) l (fun i => g (i + 1)) (k + 1)
   rw [List.mapIdx_cons]
   have hk : eqK Try.prog 50 (.agg [.int .i64 a, .int .i64 b]) (.agg [.int .i64 s.1, .int .i64 s.2]) = some (decide (s = (a, b))) := by
    obtain ⟨u, v⟩ := s
    by_cases e1 : a = u <;> by_cases e2 : b = v <;> simp [eqK, c1b, c0z, a4u, FV.kd, eqV, e1, e2, Prod.ext_iff, eq_comm]
   simp only [a9m, hk, List.findIdx?_cons]
   by_cases e : s = (a, b)
   . simp [e]
   . simp only [e, decide_false, Bool.false_eq_true, if_false, Option.map_map]
     have e2 : (l.mapIdx fun i s => (FV.agg [.int .i64 s.1, .int .i64 s.2], FV.int .i64 (((i + 1 : Nat) : Int) + (off : Int)), g (i + 1))) = l.mapIdx fun i s => (FV.agg [.int .i64 s.1, .int .i64 s.2], FV.int .i64 ((i : Int) + ((off + 1 : Nat) : Int)), g (i + 1)) := by
      congr 1; funext i s
      have : ((i + 1 : Nat) : Int) + (off : Int) = (i : Int) + ((off + 1 : Nat) : Int) := by omega
      rw [this]
     rw [e2, ih]
     congr 1
     cases l.findIdx? (fun y => decide (y = (a, b))) with
     | none => rfl
     | some n =>
       simp only [Option.map_some, Function.comp, Option.some.injEq, Prod.mk.injEq]
       refine ⟨by omega, ?_⟩
       have : (n : Int) + ((off + 1 : Nat) : Int) = ((n + 1 : Nat) : Int) + (off : Int) := by omega
       rw [this]
theorem d2j {H : Heap} {l : List (Int × Int)} {c : Nat} (h : H [87] = some (.map (sitE l) c)) (a b : Int) : b3z Try.prog H 60 (.mp [87]) (.agg [.int .i64 a, .int .i64 b]) false = some (.int .i64 (objR l (a, b) : Nat)) := by
 have hk : b0i Try.prog 50 (.agg [.int .i64 a, .int .i64 b]) = true := by simp [b0i, c1b, c0z]
 have hf := e5q a b 1 (l.drop 1) (fun i => i) 0
 simp only [b3z, c7j, hk, if_true, h]
 unfold sitE
 have e1 : ((1 : Nat) : Int) = 1 := rfl
 rw [e1] at hf
 rw [hf]
 unfold objR
 cases hx : (l.drop 1).findIdx? (fun y => decide (y = (a, b))) with
 | none => simp [d3y]
 | some n => simp
def bxs (p : Pg) (f pc nr : Nat) (X : Ins) (fk : FuncId) : List (FM.Loc × FO) := [([3, 4], .cells 57 1 [[.ptr [81] 8 0 0]]), ([3, 5], .cells 50 2 [[.int .i64 (f : Int), .int .i64 (pc : Int)]]), ([3, 6], .cells 47 5 [X.row]), ([3, 7], .cells 70 1 [[.clo fk [] [.ptr [88] 1 0 0]]]), ([3, 8], .cells 62 1 [[.sl [83, f] 1 0 nr]])]
theorem cl1M {p : Pg} {m : Bool} {fk : FuncId} (hCT : CT p m fk) (hfk : fnOk Try.prog fk = true) {B : Heap} {L : List (FM.Loc × FO)} {Y : Pts} {g : Bool} {f : Nat} {hf : f < p.funcs.length} (hy : Shp p Y) (hB : BsM p 3 B) (hl : hdN 3 (L.map Prod.fst) = true) (hn : ninL (inH (HP L B (MF p Y g))) L) {nr : Nat} (hnr : p.funcs[f].regs = (nr : Int)) (hX : BxC (updL L B) f nr fk) {a e : Int} (ha : isR p.funcs[f] a) (he : isR p.funcs[f] e) :
 FCr Try.prog Gl 59 [.int .i64 e, .int .i64 a, .ptr [3, 8] 1 0 0, .ptr [3, 7] 1 0 0, .ptr [3, 4] 1 0 0] (HP [] (updL L B) (MF p Y g)) (OutT p m (updL L B) (fun z => ∀ o ∈ getS z (SL.r f a.toNat), rdC f e z o) Y g) := g0f hCT hfk hy (hB.call 2 (by decide) hy hl hn) hnr hX ha he
theorem cl2M {p : Pg} {m : Bool} {fk : FuncId} (hCT : CT p m fk) (hfk : fnOk Try.prog fk = true) {B : Heap} {L : List (FM.Loc × FO)} {Y : Pts} {g : Bool} {f : Nat} {hf : f < p.funcs.length} (hy : Shp p Y) (hB : BsM p 3 B) (hl : hdN 3 (L.map Prod.fst) = true) (hn : ninL (inH (HP L B (MF p Y g))) L) {nr : Nat} (hnr : p.funcs[f].regs = (nr : Int)) (hX : BxC (updL L B) f nr fk) {a e : Int} (ha : isR p.funcs[f] a) (he : isR p.funcs[f] e) :
 FCr Try.prog Gl 60 [.int .i64 a, .int .i64 e, .ptr [3, 8] 1 0 0, .ptr [3, 7] 1 0 0, .ptr [3, 4] 1 0 0] (HP [] (updL L B) (MF p Y g)) (OutT p m (updL L B) (fun z => ∀ o ∈ getS z (SL.r f a.toNat), wrC f e z o) Y g) := g0e hCT hfk hy (hB.call 2 (by decide) hy hl hn) hnr hX ha he
theorem ok1 {p : Pg} {o : Int} (h0 : 0 <= o) (h1 : o < ((a0d p).length : Int)) : okA (a0d p).length [o] := ⟨by simp, fun q hq => by simp at hq; subst hq; exact ⟨h0, h1⟩⟩
theorem g2b {m : Bool} {C : Pts -> Prop} {Y Z : Pts} {g h : Bool} {to fr : SL} (hT : TR m (inS to (getS Y fr)) (inS to (getS Y fr)) Y g Z h) (hk : ∀ z, C z ↔ subR (getS z to) (getS z fr)) : TR m C C Y g Z h :=
 (TR.id trivial : TR m (fun _ => True) (fun _ => True) Y g Y g).stepk hT fun z => by rw [hk z]; simp
theorem f0m {p : Pg} {B : Heap} {Z : Pts} {h : Bool} (f pc : Nat) (L : List (FM.Loc × FO)) : b3z Try.prog (HP L B (MF p Z h)) 60 (.mp [87]) (.agg [.int .i64 (f : Int), .int .i64 (pc : Int)]) false = some (.int .i64 (objR (a0d p) ((f : Int), (pc : Int)) : Nat)) := d2j b0p _ _
theorem f5i {p : Pg} (hp : VOk p) {m : Bool} {fk : FuncId} (hCT : CT p m fk) (hfk : fnOk Try.prog fk = true) {B : Heap} {L : List (FM.Loc × FO)} {Y : Pts} {g : Bool} {f : Nat} (hf : f < p.funcs.length) (hy : Shp p Y) (hB : BsM p 3 B) (hl : hdN 3 (L.map Prod.fst) = true) (hn : ninL (inH (HP L B (MF p Y g))) L) {nr nb : Nat} (hnr : p.funcs[f].regs = (nr : Int)) {X : Ins} (hI : InsOk p p.funcs[f] X) (hbr : opR p p.funcs[f] X 102 X.b = true) (hxb : X.b = (nb : Int)) (hnb : nb < p.funcs.length) (ha : X.op = 26 -> X.a < (nr : Int)) :
 FCr Try.prog Gl 62 [.ptr [81] 8 0 0, .agg X.row, .sl [83, f] 1 0 nr, .clo fk [] [.ptr [88] 1 0 0]] (HP [] (updL L B) (MF p Y g)) (OutT p m (updL L B) (b8e f X nb p.funcs[nb].params.toNat p.funcs[nb].code) Y g) := by
 have hB' := hB.call 2 (by decide) hy hl hn
 have hrr := hp.regs (List.getElem_mem hnb)
 have hfr := hp.regs (List.getElem_mem hf)
 obtain ⟨k1, k2, k3, k4⟩ := a7a hp (List.getElem_mem hf) hbr
 have hfa : fnAt p X.b = p.funcs[nb] := by unfold fnAt; rw [hxb, Int.toNat_natCast, List.getD_eq_getElem?_getD, List.getElem?_eq_getElem hnb, Option.getD_some]
 rw [hfa] at k4
 have p0 := hrr.p0
 have p1 := hrr.p1
 have r64 := hrr.r64
 have f64 := hfr.r64
 obtain ⟨np, hnp⟩ : ∃ np : Nat, p.funcs[nb].params = (np : Int) := ⟨p.funcs[nb].params.toNat, by omega⟩
 obtain ⟨nr2, hnr2⟩ : ∃ nr2 : Nat, p.funcs[nb].regs = (nr2 : Int) := ⟨p.funcs[nb].regs.toNat, by omega⟩
 rw [hnp, Int.toNat_natCast]
 have e1 : np <= nr2 := by omega
 have e2 : nr2 <= 64 := by omega
 have e3 : nr <= 64 := by omega
 have e4 : X.c + np <= nr := by omega
 by_cases q1 : X.op = 26
 . by_cases q2 : X.a < 0
   . exact d6g hCT hfk hf hy hB' hnr hxb hnb hnr2 hnp e1 e2 e3 k3 e4 q1 q2
   . exact e3h hCT hfk hf hy hB' hnr hxb hnb hnr2 hnp e1 e2 e3 k3 e4 q1 q2 (ha q1) hrr.c1000 fun n hn h30 => by
      have := (hp.ins _ (List.getElem_mem hnb) n hn).a
      rw [h30] at this
      have := (a9k (r := 82) this (.inr rfl)).2
      omega
 . exact d6h hCT hfk hf hy hB' hnr hxb hnb hnr2 hnp e1 e2 e3 k3 e4 q1
theorem c4f {p : Pg} (hp : VOk p) {B : Heap} {L : List (FM.Loc × FO)} {Y : Pts} {g : Bool} (hy : Shp p Y) (hB : BsM p 3 B) (hl : hdN 3 (L.map Prod.fst) = true) (hn : ninL (inH (HP L B (MF p Y g))) L) {o : Int} (h1 : o < ((a0d p).length : Int)) : FC Try.prog Gl 63 [.ptr [81] 8 0 0, .int .i64 o] (HP [] (updL L B) (MF p Y g)) (.list 1 (ints (a4x p Y o))) (HP [] (updL L B) (MF p Y g)) := c1t hp hy (hB.call 2 (by decide) hy hl hn) h1
theorem a2g {l k : FM.Loc} {o : FO} {L : List (FM.Loc × FO)} {B A : Heap} : inH (HP ((k, o) :: L) B A) l = (l = k \/ inH (HP L B A) l) := by
 refine propext ⟨fun h => ?_, fun h => ?_⟩
 . by_cases e : l = k
   . exact .inl e
   . refine .inr fun h' => h ?_
     obtain ⟨h1, h2⟩ := a4w.1 h'
     exact a4w.2 ⟨h1, by simpa [updL, upd, e] using h2⟩
 . rcases h with rfl | h
   . exact a1i
   . exact a0w h
theorem gs0 {z : Pts} {f : Nat} : getS z (.r f 0) = rg z f 0 := rfl
theorem gsr {z : Pts} {f : Nat} {a : Int} : getS z (.r f a.toNat) = rg z f a := a7t z f a
theorem c4u {p : Pg} (hp : VOk p) {m : Bool} {fk : FuncId} (hCT : CT p m fk) (hfk : fnOk Try.prog fk = true) {B : Heap} {L : List (FM.Loc × FO)} {Y : Pts} {g : Bool} {f : Nat} (hf : f < p.funcs.length) (hy : Shp p Y) (hB : BsM p 3 B) {nr nb : Nat} (hnr : p.funcs[f].regs = (nr : Int)) {X : Ins} (hI : InsOk p p.funcs[f] X) (hbr : opR p p.funcs[f] X 102 X.b = true) (hxb : X.b = (nb : Int)) (hnb : nb < p.funcs.length) (ha : X.op = 26 -> X.a < (nr : Int)) {v : Int} (hop : X.op = v) (hl : hdN 3 (L.map Prod.fst) = true) (hn : ninL (inH (HP L B (MF p Y g))) L) :
 FCr Try.prog Gl 62 [.ptr [81] 8 0 0, .agg [.int .i64 v, .int .i64 X.a, .int .i64 (nb : Int), .int .i64 X.c, .int .i64 X.d], .sl [83, f] 1 0 nr, .clo fk [] [.ptr [88] 1 0 0]] (HP [] (updL L B) (MF p Y g)) (OutT p m (updL L B) (b8e f X nb p.funcs[nb].params.toNat p.funcs[nb].code) Y g) := by
 have h := f5i hp hCT hfk hf hy hB hl hn hnr hI hbr hxb hnb ha
 subst hop
 rw [<- hxb]; exact h
theorem b8d {p : Pg} {f pc nb : Nat} {X : Ins} (hxb : X.b = (nb : Int)) (hnb : nb < p.funcs.length) (q : X.op = 26 \/ X.op = 28 \/ X.op = 31) (z : Pts) : a3n p f pc X z ↔ b8e f X nb p.funcs[nb].params.toNat p.funcs[nb].code z := by
 have hfa : fnAt p X.b = p.funcs[nb] := by unfold fnAt; rw [hxb, Int.toNat_natCast, List.getD_eq_getElem?_getD, List.getElem?_eq_getElem hnb, Option.getD_some]
 have hN : X.b.toNat = nb := by rw [hxb, Int.toNat_natCast]
 have key : a3n p f pc X z ↔ (∀ i : Nat, i < (fnAt p X.b).params.toNat -> subR (rg z X.b.toNat i) (rg z f (X.c + i))) /\ (X.op = 26 /\ 0 <= X.a -> ∀ m ∈ (fnAt p X.b).code, m.op = 30 /\ 0 <= m.a -> subR (rg z f X.a) (rg z X.b.toNat m.a)) := by
  rcases q with q | q | q <;> simp [a3n, q, alO]
 rw [key, hfa, hN]
 unfold b8e prC rtC
 refine and_congr Iff.rfl ⟨fun h h0 j hj _ hc => h h0 _ (List.getElem_mem hj) hc, fun h h0 m hm hc => ?_⟩
 obtain ⟨j, hj, rfl⟩ := List.getElem_of_mem hm
 exact h h0 j hj hj hc
theorem c_26 {p : Pg} (hp : VOk p) {m : Bool} {fk : FuncId} (hCT : CT p m fk) (hfk : fnOk Try.prog fk = true) {B : Heap} {Y : Pts} {g : Bool} {f pc : Nat} (hf : f < p.funcs.length) {X : Ins} (hI : InsOk p p.funcs[f] X) (hy : Shp p Y) (hB : BsM p 3 B) (q : X.op = 26) : FCr Try.prog Gl 44 [.ptr [81] 8 0 0, .agg [.int .i64 (f : Int), .int .i64 (pc : Int)], .agg X.row, .clo fk [] [.ptr [88] 1 0 0]] (HP [] B (MF p Y g)) (OutT p m B (a3n p f pc X) Y g) := by
 have hsv := a2b hp
 have fB : ∀ r, B (3 :: r) = none := fun r => (hB Y g Y g hy hy).fb 3 r (by decide)
 have y3 := hy.rn
 have y4 := hy.cn
 have hrr := hp.regs (List.getElem_mem hf)
 obtain ⟨y1, y2⟩ := hy.at hf
 obtain ⟨nr, hnr⟩ : ∃ nr : Nat, p.funcs[f].regs = (nr : Int) := ⟨p.funcs[f].regs.toNat, by have := hrr.p0; have := hrr.p1; omega⟩
 rw [hnr, Int.toNat_natCast] at y2
 have hnr64 : nr <= 64 := by have := hrr.r64; omega
 have hIa := hI.a
 have hIb := hI.b
 have hIc := hI.c
 have hi1 : ∀ (L : List (FM.Loc × FO)) (Z : Pts) (h : Bool), inH (HP L B (MF p Z h)) [88] := fun L Z h => a8n
 have hi2 : ∀ (L : List (FM.Loc × FO)) (Z : Pts) (h : Bool), inH (HP L B (MF p Z h)) [81] := fun L Z h => a3p a3r
 have hi3 : ∀ (L : List (FM.Loc × FO)) (Z : Pts) (h : Bool), Shp p Z -> inH (HP L B (MF p Z h)) [83, f] := fun L Z h hZ => a3p (a4g (hZ.at hf).1)
 have hbr : opR p p.funcs[f] X 102 X.b = true := by have := hI.b; rw [q] at this; exact this
 obtain ⟨k1, k2, k3, k4⟩ := a7a hp (List.getElem_mem hf) hbr
 obtain ⟨nb, hxb⟩ : ∃ nb : Nat, X.b = (nb : Int) := ⟨X.b.toNat, by omega⟩
 have hnb : nb < p.funcs.length := by omega
 have ha26 : X.op = 26 -> X.a < (nr : Int) := fun e => by have := hI.a; rw [e] at this; have := (a9k this (.inl rfl)).2; omega
 refine a4f (res := []) 16 210 [27, 63, 62, 183, 192, 191, 190] (fun d ix => 3 :: d :: ix) (fn := Try.f44) (by kernel_rfl) (by rfl) (by rfl) (by rfl) (by simp) (by decide) ?_
 repeat' first
  | ((with_reducible refine a1y (id := 24) fun K hK => ?_); refine a1k 3 ?_)
  | ((with_reducible refine a1y (id := 27) fun K hK => ?_); refine a1k 5 ?_)
  | ((with_reducible refine a1y (id := 31) fun K hK => ?_); refine a1k 5 ?_)
  | ((with_reducible refine a1y (id := 33) fun K hK => ?_); refine a1k 6 ?_)
  | ((with_reducible refine a1y (id := 36) fun K hK => ?_); refine a1k 5 ?_)
  | ((with_reducible refine a1y (id := 39) fun K hK => ?_); refine a1k 5 ?_)
  | ((with_reducible refine a1y (id := 41) fun K hK => ?_); refine a1k 5 ?_)
  | ((with_reducible refine a1y (id := 45) fun K hK => ?_); refine a1k 4 ?_)
  | (with_reducible refine a1z (id := 6) [] 7 a0k (by kernel_rfl) fun K hK => ?_)
  | (with_reducible refine a1z (id := 12) [] 8 a0k (by kernel_rfl) fun K hK => ?_)
  | (with_reducible refine a1z (id := 17) [] 16 a0k (by kernel_rfl) fun K hK => ?_)
  | (with_reducible refine a1z (id := 22) [] 11 a0k (by kernel_rfl) fun K hK => ?_)
  | (with_reducible refine a1z (id := 55) [] 12 a0k (by kernel_rfl) fun K hK => ?_)
  | (with_reducible refine a4v ?_)
  | ((with_reducible refine mdH ?_); refine a3g (by kernel_rfl) (fun d hd => ?_) rfl (c4u hp hCT hfk hf hy hB hnr hI hbr hxb hnb ha26 q ?_ ?_) ?_; (focus (cases hd; exact Nat.le_of_ble_eq_true rfl)); (focus rfl); (focus (first | rfl | (simp [ninL, ninO, a3m, nins, nin, a0e, a0i, a0a, a1d, a0c, a0b, a2c, mapO, a2f, a2g, a1i, a0w, hdN, *]; done))); (rintro r' H' ⟨rfl, Z2, h2, rfl, hZ2, hT2⟩))
  | ((with_reducible refine lfH ?_); refine a7d (j := 3) (hB _ _ _ _ hy hZ2) rfl ⟨rfl, Z2, h2, rfl, hZ2, hT2.congr (b8d hxb hnb (.inl q))⟩ trivial)
  | (with_reducible refine a5n ?_)
  | (with_reducible refine a7z ?_)
  | with_reducible first | refine a0p (id := 1) 9 a0k (by kernel_rfl) fun K hK => ?_ | refine a0p (id := 11) 6 a0k (by kernel_rfl) fun K hK => ?_ | refine stp ?_
  | (with_reducible refine stpK ?_; intro K hK)
  | (with_reducible refine stpC ?_; intro T E hT hE)
  | (with_reducible refine stp2 ?_ ?_ <;> intro h)
  | with_reducible first | refine a0q rfl ?_ | refine a0t rfl (Nat.le_of_ble_eq_true rfl) a0s ?_ | refine a0t rfl (Nat.le_of_ble_eq_true rfl) (a0r (by simp [HPXB, a2d, fB, ext, upd, *])) ?_ | refine a1v (by decide) (by kernel_rfl) ?_ | refine a0x (by decide) ?_
  | (with_reducible refine Kont.go hK ?_; clear hK K)
  | ((with_reducible first | refine KT.go hT ?_ | refine KT.go hE ?_); clear hT hE T E)
  | simp [*, -List.all_flatten, -List.all_eq_true, DEFM, fB, a2e, a1u, a2d, hdN, a1i, a0w, a2g, a1m, a0y, a0z, a2n, a2o, a2p, anR, a6m, a6l, a3r, a4g, a3k, MG_t, MG_f, rmvs, a0j, a3c, a0h, a2r, a0b, a0e, FnD.row, Ins.row, b0p, a3k, b0w, b0v]
theorem c_24 {p : Pg} (hp : VOk p) {m : Bool} {fk : FuncId} (hCT : CT p m fk) (hfk : fnOk Try.prog fk = true) {B : Heap} {Y : Pts} {g : Bool} {f pc : Nat} (hf : f < p.funcs.length) {X : Ins} (hI : InsOk p p.funcs[f] X) (hy : Shp p Y) (hB : BsM p 3 B) (q : X.op = 24) : FCr Try.prog Gl 44 [.ptr [81] 8 0 0, .agg [.int .i64 (f : Int), .int .i64 (pc : Int)], .agg X.row, .clo fk [] [.ptr [88] 1 0 0]] (HP [] B (MF p Y g)) (OutT p m B (a3n p f pc X) Y g) := by
 have hsv := a2b hp
 have fB : ∀ r, B (3 :: r) = none := fun r => (hB Y g Y g hy hy).fb 3 r (by decide)
 have y3 := hy.rn
 have y4 := hy.cn
 have hrr := hp.regs (List.getElem_mem hf)
 obtain ⟨y1, y2⟩ := hy.at hf
 obtain ⟨nr, hnr⟩ : ∃ nr : Nat, p.funcs[f].regs = (nr : Int) := ⟨p.funcs[f].regs.toNat, by have := hrr.p0; have := hrr.p1; omega⟩
 rw [hnr, Int.toNat_natCast] at y2
 have hnr64 : nr <= 64 := by have := hrr.r64; omega
 have hIa := hI.a
 have hIb := hI.b
 have hIc := hI.c
 have hi1 : ∀ (L : List (FM.Loc × FO)) (Z : Pts) (h : Bool), inH (HP L B (MF p Z h)) [88] := fun L Z h => a8n
 have hi2 : ∀ (L : List (FM.Loc × FO)) (Z : Pts) (h : Bool), inH (HP L B (MF p Z h)) [81] := fun L Z h => a3p a3r
 have hi3 : ∀ (L : List (FM.Loc × FO)) (Z : Pts) (h : Bool), Shp p Z -> inH (HP L B (MF p Z h)) [83, f] := fun L Z h hZ => a3p (a4g (hZ.at hf).1)
 have ha : isR p.funcs[f] X.a := a4l (r := (rR X.op).1) hIa (by rw [q]; decide)
 obtain ⟨a0, a1⟩ := id ha
 have aN : (X.a).toNat < nr := by omega
 have a2 : X.a < (nr : Int) := by omega
 have haS := hy.rok hf ha
 have hoL := b1x p ((f : Int), (pc : Int))
 have hlk := fun (Z : Pts) (h : Bool) (L : List (FM.Loc × FO)) => f0m (p := p) (B := B) (Z := Z) (h := h) f pc L
 generalize hO : objR (a0d p) ((f : Int), (pc : Int)) = O at hoL hlk
 have hk : okA (a0d p).length [(O : Int)] := ok1 (by omega) (by omega)
 have hx := hI.x24 q
 have hc0 : 0 <= X.c := by have := hI.c; rw [q] at this; simp [rR, opR] at this; exact this.1
 have hx1 : X.a + X.c < (nr : Int) := by have := hx.1; unfold W at this; rw [IntKind.wrap_i64] at this; omega
 obtain ⟨cn, hcn⟩ : ∃ cn : Nat, X.c = (cn : Int) := ⟨X.c.toNat, by omega⟩
 have hcN : X.c.toNat = cn := by omega
 have hcl : O < (a0d p).length := hoL
 refine a4f (res := []) 16 210 [27, 63, 62, 183, 192, 191, 190] (fun d ix => 3 :: d :: ix) (fn := Try.f44) (by kernel_rfl) (by rfl) (by rfl) (by rfl) (by simp) (by decide) ?_
 repeat' first
  | ((with_reducible refine a1y (id := 24) fun K hK => ?_); refine a1k 3 ?_)
  | ((with_reducible refine a1y (id := 27) fun K hK => ?_); refine a1k 5 ?_)
  | ((with_reducible refine a1y (id := 31) fun K hK => ?_); refine a1k 5 ?_)
  | ((with_reducible refine a1y (id := 33) fun K hK => ?_); refine a1k 6 ?_)
  | ((with_reducible refine a1y (id := 36) fun K hK => ?_); refine a1k 5 ?_)
  | ((with_reducible refine a1y (id := 39) fun K hK => ?_); refine a1k 5 ?_)
  | ((with_reducible refine a1y (id := 41) fun K hK => ?_); refine a1k 5 ?_)
  | ((with_reducible refine a1y (id := 45) fun K hK => ?_); refine a1k 4 ?_)
  | (with_reducible refine a1z (id := 6) [] 7 a0k (by kernel_rfl) fun K hK => ?_)
  | (with_reducible refine a1z (id := 12) [] 8 a0k (by kernel_rfl) fun K hK => ?_)
  | (with_reducible refine a1z (id := 17) [] 16 a0k (by kernel_rfl) fun K hK => ?_)
  | (with_reducible refine a1z (id := 22) [] 11 a0k (by kernel_rfl) fun K hK => ?_)
  | (with_reducible refine a1z (id := 55) [] 12 a0k (by kernel_rfl) fun K hK => ?_)
  | (with_reducible refine a4v ?_)
  | (with_reducible refine hfc1 [3, 95] (mapO [(O : Int)]) (fun H2 _ h0 => d6e (O : Int) h0) ?_)
  | ((with_reducible refine mdH ?_); refine a3g hfk (fun d hd => ?_) rfl (b5p (.r f X.a.toNat) [3, 95] hCT hB (by decide) hy haS hk (by simp [HPXB, fB, a2e, a1u, a2d]) rfl ?_) ?_; (focus (cases hd; exact Nat.le_of_ble_eq_true rfl)); (focus (first | rfl | (simp [ninL, ninO, a3m, nins, nin, a0e, a0i, a0a, a1d, a0c, a0b, a2c, mapO, a2f, a1i, a0w, hdN, *]; done))); (rintro r' H' ⟨rfl, Z2, h2, rfl, hZ2, hT2⟩))
  | ((with_reducible refine a1o ?_); refine a2h (σ := {x : Nat × (Pts × Bool) // x.1 <= cn /\ Shp p x.2.1 /\ TR m (fun z => subR (rg z f X.a) [(O : Int)] /\ ckC f X.a O x.1 z) (fun z => subR (rg z f X.a) [(O : Int)] /\ ckC f X.a O x.1 z) Y g x.2.1 x.2.2}) (fun y => [(12, .undef)]) [62] (fun y => [(63, .int .i64 (y.1.1 : Int))]) [[3, 95]] (fun y => []) (fun y => MF p y.1.2.1 y.1.2.2) (fun y => cn - y.1.1) ⟨(0, (Z2, h2)), Nat.zero_le _, hZ2, hT2.congr (fun z => by simp [inS, gsr, g3a])⟩ (gk3i (j := 3) [] (hB _ _ _ _ hy hZ2) ?_ ?_ ?_ ?_ ?_ ?_ ?_) ?_; (iterate 7 (focus (first | rfl | (simp [LPXB, *, SIMB, hdN, injB, fB, a2e, a1u, a2d, hdN, a1i, a0w, a2g]; done)))); rintro ⟨⟨k, ⟨V, v⟩⟩, hk2, hV, hT3⟩; simp only [lpS, LPXB]; (try dsimp only at hk2 hV hT3); obtain ⟨v1, v2⟩ := hV.at hf; rw [hnr, Int.toNat_natCast] at v2; have v3 := hV.rn; have v4 := hV.cn; rcases a1l hk2 with hlk | ⟨hlk, he⟩; rotate_left; subst k; rotate_left; have wk := wli hlk (by omega); have w1 : IntKind.wrap .i64 (X.a + 1) = X.a + 1 := (by rw [IntKind.wrap_i64]; omega); have w2 : IntKind.wrap .i64 (X.a + 1 + (k : Int)) = X.a + ((k : Int) + 1) := (by rw [IntKind.wrap_i64]; omega); have u2 : X.a + ((k : Int) + 1) < (nr : Int) := (by omega); have u3 : 0 <= X.a + ((k : Int) + 1) := (by omega); have u4 : (X.a + ((k : Int) + 1)).toNat < nr := (by omega); have hfr := hV.rok hf (a := X.a + ((k : Int) + 1)) ⟨u3, by omega⟩; have hto := hV.cok (o := (O : Int)) (by omega) (by omega); have hto2 : (SL.c O).ok V := (by simpa using hto))
  | ((with_reducible refine mdH ?_); refine a3g hfk (fun d hd => ?_) rfl (b5p (.c O) (SL.r f (X.a + ((k : Int) + 1)).toNat).loc hCT hB (by decide) hV hto2 (hV.gets (.r f (X.a + ((k : Int) + 1)).toNat)) (a7c hfr) rfl ?_) ?_; (focus (cases hd; exact Nat.le_of_ble_eq_true rfl)); (focus (first | rfl | (simp [ninL, ninO, a3m, nins, nin, a0e, a0i, a0a, a1d, a0c, a0b, a2c, mapO, a2f, a1i, a0w, hdN, *]; done))); (rintro r' H' ⟨rfl, V2, v2_, rfl, hV2, hT4⟩))
  | ((with_reducible refine a1j ?_); refine a1w (⟨(k + 1, (V2, v2_)), by omega, hV2, hT3.stepk hT4 (fun z => by rw [g2z, and_assoc])⟩) (gk3i (j := 3) [] (hB _ _ _ _ hy hV2) ?_ ?_ ?_ ?_ ?_ ?_ ?_) ?_; (iterate 7 (focus (first | rfl | (simp [LPXB, *, SIMB, hdN, injB, fB, a2e, a1u, a2d, hdN, a1i, a0w, a2g]; done)))); (focus (dsimp only; omega)))
  | ((with_reducible refine lfH ?_); refine a7d (j := 3) (hB _ _ _ _ hy hV) rfl ⟨rfl, V, v, rfl, hV, hT3.congr (fun z => by simp [a3n, q, alO, hO, hcN, ckC])⟩ trivial)
  | (with_reducible refine a5n ?_)
  | (with_reducible refine a7z ?_)
  | with_reducible first | refine a0p (id := 1) 9 a0k (by kernel_rfl) fun K hK => ?_ | refine a0p (id := 11) 6 a0k (by kernel_rfl) fun K hK => ?_ | refine stp ?_
  | (with_reducible refine stpK ?_; intro K hK)
  | (with_reducible refine stpC ?_; intro T E hT hE)
  | (with_reducible refine stp2 ?_ ?_ <;> intro h)
  | with_reducible first | refine a0q rfl ?_ | refine a0t rfl (Nat.le_of_ble_eq_true rfl) a0s ?_ | refine a0t rfl (Nat.le_of_ble_eq_true rfl) (a0r (by simp [HPXB, a2d, fB, ext, upd, *])) ?_ | refine a1v (by decide) (by kernel_rfl) ?_ | refine a0x (by decide) ?_
  | (with_reducible refine Kont.go hK ?_; clear hK K)
  | ((with_reducible first | refine KT.go hT ?_ | refine KT.go hE ?_); clear hT hE T E)
  | simp [*, -List.all_flatten, -List.all_eq_true, DEFM, fB, a2e, a1u, a2d, hdN, a1i, a0w, a2g, a1m, a0y, a0z, a2n, a2o, a2p, anR, a6m, a6l, a3r, a4g, a3k, MG_t, MG_f, rmvs, a0j, a3c, a0h, a2r, a0b, a0e, FnD.row, Ins.row, b0p, a3k, b0w, b0v]
end Go.He
