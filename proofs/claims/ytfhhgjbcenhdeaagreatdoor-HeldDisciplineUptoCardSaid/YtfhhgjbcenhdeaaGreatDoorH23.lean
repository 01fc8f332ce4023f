/- Parts of the proof. -/
import Derived.Test.YtfhhgjbcenhdeaaGreatDoorH20
set_option linter.unusedSimpArgs false
set_option linter.unusedVariables false
namespace Go.Je
open Go Go.FM Go.Gv Go.Proofs
set_option maxRecDepth 100000
set_option maxHeartbeats 40000000
theorem e9z {L0 L1 : FM.Loc -> Prop} {j : Nat} {B A : Heap} (h : Bs L0 j B A) (hl : ∀ l, L1 l -> L0 l) : Bs L1 j B A := ⟨h.fb, h.fa, h.clo, fun l hl' => h.lent l (hl l hl')⟩
theorem d9e {p : Pg} {x : Pts} (hx : Shp p x) {o : Int} (h0 : 0 < o) {f j : Nat} (hf : f < p.funcs.length) (hj : j < p.funcs[f].code.length) (h : o.toNat < (a0t p).length) (e : (a0t p)[o.toNat] = ((f : Int), (j : Int))) :
 a5u p x o = if p.funcs[f].code[j].op = 23 then [] else if p.funcs[f].code[j].op = 24 /\ wrR p x o = false then [p.funcs[f].code[j].b] else oneP p.funcs p.funcs.length := by
 have hn : a9w p (x.sites.getD o.toNat (0, 0)) = p.funcs[f].code[j] := by
  rw [hx.sites, List.getD_eq_getElem?_getD, List.getElem?_eq_getElem h, Option.getD_some, e]
  simp [a9w, hf, List.getD_eq_getElem?_getD, hj]
 simp only [a5u, h0, if_true, hn]
theorem c5z {p : Pg} {B : Heap} {Y : Pts} {g : Bool} (hy : Shp p Y) (hB : BsM p 2 B) {L : List (FM.Loc × FO)} {r : List Nat} {xs : List (List FV)} {n : Nat} (hN : n = xs.length) (hL : hdN 2 (L.map Prod.fst) = true) (h : updL L B (2 :: r) = some (.cells 3 1 xs)) (hn : nlss xs = true) (hnn : ∀ U : FM.Loc -> Prop, a3o U xs) :
 LFin (HP [] B (MF p Y g)) (fun r1 H1 => r1 = .sl (2 :: r) 1 0 n /\ H1 = HP [(2 :: r, .cells 3 1 xs)] B (MF p Y g)) (HP L B (MF p Y g)) (some [.sl (2 :: r) 1 0 n]) := by
 subst hN
 have hb := (BsM.call (L := [(2 :: r, .cells 3 1 xs)]) 1 hB (by decide) (b := g) hy (by rfl) ⟨hnn _, trivial⟩) Y g Y g hy hy
 refine g8t [(2 :: r, .cells 3 1 xs)] (j := 1) (e9z hb fun l hl => a0v (L := []) hl) (d3m (fun r => (hB Y g Y g hy hy).fb 2 r (by decide)) hL h) ⟨rfl, ?_⟩ ?_
 . rfl
 . exact a1h
theorem c5y {p : Pg} {B : Heap} {Y : Pts} {g : Bool} (hy : Shp p Y) (hB : BsM p 2 B) {r : List Nat} {xs : List (List FV)} {n : Nat} (hN : n = xs.length) {o : Int} (h : FC Tryz.prog Gl 176 [.ptr [81] 8 0 0, .int .i64 o] (HP [] B (MF p Y g)) (.sl (2 :: r) 1 0 n) (HP [(2 :: r, .cells 3 1 xs)] B (MF p Y g))) (hn : nlss xs = true) : FC Tryz.prog Gl 176 [.ptr [81] 8 0 0, .int .i64 o] (HP [] B (MF p Y g)) (.list 1 xs) (HP [] B (MF p Y g)) :=
 (show FC Tryz.prog Gl 176 [.ptr [81] 8 0 0, .int .i64 o] (HP [] B (MF p Y g)) (.sl (2 :: r) 1 0 xs.length) (upd (HP [] B (MF p Y g)) (2 :: r) (.cells 3 1 xs)) by rw [a1t (a2f p Y g 2 r (by decide))]; subst hN; exact h).frozen (a4r.2 ⟨a2f p Y g 2 r (by decide), (hB Y g Y g hy hy).fb 2 r (by decide)⟩) hn (hB Y g Y g hy hy).clo
theorem b3h (l : List Int) (U : FM.Loc -> Prop) : a3o U (ints l) := by
 induction l with
 | nil => trivial
 | cons a l ih => exact ⟨⟨trivial, trivial⟩, ih⟩
theorem b9x {H H1 : Heap} {Φ : FV -> Heap -> Prop} {x : Option (List FV)} (h : LFin H Φ H1 x) : LFin H Φ H1 x := h
theorem b1p {p : Pg} (hp : VOk p) {j : Nat} {B : Heap} {L : List (FM.Loc × FO)} {Y : Pts} {g : Bool} (hy : Shp p Y) (hB : BsM p j B) (h1 : 1 < j) (hl : hdN j (L.map Prod.fst) = true) (hn : ninL (inH (HP L B (MF p Y g))) L) (o : Int) : FC Tryz.prog Gl 202 [.ptr [81] 8 0 0, .int .i64 o] (HP [] (updL L B) (MF p Y g)) (.bool (wrR p Y o)) (HP [] (updL L B) (MF p Y g)) := c8j hp hy (hB.call 1 h1 hy hl hn) o
theorem f3j {p : Pg} (hp : VOk p) {B : Heap} {Y : Pts} {g : Bool} (hy : Shp p Y) (hB : BsM p 2 B) {o : Int} (h0 : ¬ 0 < o) : FC Tryz.prog Gl 176 [.ptr [81] 8 0 0, .int .i64 o] (HP [] B (MF p Y g)) (.sl [2, 1000] 1 0 (oneP p.funcs p.funcs.length).length) (HP [([2, 1000], .cells 3 1 (ints (oneP p.funcs p.funcs.length)))] B (MF p Y g)) := by
 have hsv := a3v hp
 have fB : ∀ r, B (2 :: r) = none := fun r => (hB Y g Y g hy hy).fb 2 r (by decide)
 have y3 := hy.rn
 have hi2 : ∀ (L : List (FM.Loc × FO)), inH (HP L B (MF p Y g)) [81] := fun L => a3s a3y
 refine a5y (res := [.tmp 4]) 10 68 [54, 53, 52] (fun d ix => 2 :: d :: ix) (fn := Tryz.f176) (by kernel_rfl) (by rfl) (by rfl) (by rfl) (by simp) (by decide) ?_
 repeat' first
  | ((with_reducible refine a2c ?_); refine a3f (σ := {i : Nat // i <= p.funcs.length}) (fun y => [(8, .undef), (9, .undef), (7, .sl [2, 1000] 1 0 (oneP p.funcs y.1).length)]) [53, 52] (fun y => [(54, .int .i64 (y.1 : Int))]) [[2, 9]] (fun y => [([2, 1000], .cells 3 1 (ints (oneP p.funcs y.1)))]) (fun y => MF p Y g) (fun y => p.funcs.length - y.1) ⟨0, by simp⟩ (gk3i (j := 2) [] (hB _ _ _ _ hy hy) ?_ ?_ ?_ ?_ ?_ ?_ ?_) ?_; (iterate 7 (focus (first | rfl | (simp [LPXB, *, SIMB, hdN, injB, d2e, fB, a2g, a1t, a2f, hdN, a1h, a0v]; done)))); rintro ⟨i, hi⟩; simp only [lpS, LPXB]; (try dsimp only at hi); rcases a1y hi with hlt | ⟨hlt, rfl⟩; have hnf := hp.nf; have wi := wli hlt (by omega); have hol := b4u p.funcs i; have hs := szn (n := (oneP p.funcs i).length + 1) (k := 8) (by omega) (by decide); have hs2 : (oneP p.funcs i).length + 1 <= 4611686018427387904 := (by omega); by_cases hq : (p.funcs[i]'hlt).params = 1)
  | ((with_reducible refine a1m ?_); refine a2a (⟨i + 1, by omega⟩) (gk3i (j := 2) [] (hB _ _ _ _ hy hy) ?_ ?_ ?_ ?_ ?_ ?_ ?_) ?_; (iterate 7 (focus (have e := b9s hlt hq; first | rfl | (simp [LPXB, *, SIMB, hdN, injB, a2r, fB, a2g, a1t, a2f, hdN, a1h, a0v]; done)))); (focus (dsimp only; omega)))
  | ((with_reducible refine a1m ?_); refine a2a (⟨i + 1, by omega⟩) (gk3i (j := 2) [] (hB _ _ _ _ hy hy) ?_ ?_ ?_ ?_ ?_ ?_ ?_) ?_; (iterate 7 (focus (have e := c3k hlt hq; first | rfl | (simp [LPXB, *, SIMB, hdN, injB, fB, a2g, a1t, a2f, hdN, a1h, a0v]; done)))); (focus (dsimp only; omega)))
  | ((with_reducible refine b9x ?_); refine c5z (g := g) (r := [1000]) (xs := ints (oneP p.funcs p.funcs.length)) hy hB ?_ ?_ ?_ (a0c _) (b3h _); (focus (simp [a0e]; done)); (focus rfl); (focus (simp [a1w, a2d]; done)))
  | with_reducible first | refine a3m (id := 3) 15 a1v (by kernel_rfl) fun K hK => ?_ | refine stp ?_ | refine stpK ?_; intro K hK | refine stpC ?_; intro T E hT hE | refine stp2 ?_ ?_ <;> intro h | refine a0x rfl ?_ | refine a1a rfl (Nat.le_of_ble_eq_true rfl) a0z ?_ | refine a1a rfl (Nat.le_of_ble_eq_true rfl) (a0y (by simp [HPXB, a2f, fB, ext, upd, *])) ?_ | refine a2i (by decide) (by kernel_rfl) ?_ | refine a1j (by decide) ?_ | refine Kont.go hK ?_; clear hK K | refine KT.go hT ?_; clear hT hE T E | refine KT.go hE ?_; clear hT hE T E
  | simp [*, -List.all_flatten, -List.all_eq_true, DEFM, LENB, List.take_length, asR, a4u, a3r, FV.cellV, a2r, b2n, fB, a2g, a1t, a2f, hdN, a1h, a0v, a1n, a1b, a1c, a2z, a3a, a3b, anR, a6r, a6q, a3y, a4f, a3u, MG_t, MG_f, rmvs, a0j, a3t, a0f, a3i, a0b, a0d, FnD.row, Ins.row]
theorem e4g {p : Pg} (hp : VOk p) {B : Heap} {Y : Pts} {g : Bool} (hy : Shp p Y) (hB : BsM p 2 B) {o : Int} (h0 : 0 < o) (h1 : o < ((a0t p).length : Int)) {f j : Nat} (hf : f < p.funcs.length) (hj : j < p.funcs[f].code.length) (hol0 : o.toNat < (a0t p).length) (es : (a0t p)[o.toNat] = ((f : Int), (j : Int))) (q1 : (p.funcs[f]'hf).code[j].op = 23) : FC Tryz.prog Gl 176 [.ptr [81] 8 0 0, .int .i64 o] (HP [] B (MF p Y g)) (.nils) (HP [] B (MF p Y g)) := by
 have hsv := a3v hp
 have fB : ∀ r, B (2 :: r) = none := fun r => (hB Y g Y g hy hy).fb 2 r (by decide)
 have y3 := hy.rn
 have hi2 : ∀ (L : List (FM.Loc × FO)), inH (HP L B (MF p Y g)) [81] := fun L => a3s a3y
 have es1 : ((a0t p)[o.toNat]'hol0).1 = (f : Int) := by rw [es]
 have es2 : ((a0t p)[o.toNat]'hol0).2 = (j : Int) := by rw [es]
 have hge : 0 <= o := by omega
 clear es
 refine a5y (res := [.tmp 4]) 10 68 [54, 53, 52] (fun d ix => 2 :: d :: ix) (fn := Tryz.f176) (by kernel_rfl) (by rfl) (by rfl) (by rfl) (by simp) (by decide) ?_
 repeat' first
  | ((with_reducible refine c1v (j := 2) (hB _ _ _ _ hy hy) ?_ ?_ ?_ ?_); (focus rfl); (focus rfl); (focus (first | rfl | (simp [*]; done))); focus (first | trivial | (simp [nin, nins, a4i, inH, HPXB]; done)))
  | with_reducible first | refine a3m (id := 3) 15 a1v (by kernel_rfl) fun K hK => ?_ | refine stp ?_ | refine stpK ?_; intro K hK | refine stpC ?_; intro T E hT hE | refine stp2 ?_ ?_ <;> intro h | refine a0x rfl ?_ | refine a1a rfl (Nat.le_of_ble_eq_true rfl) a0z ?_ | refine a1a rfl (Nat.le_of_ble_eq_true rfl) (a0y (by simp [HPXB, a2f, fB, ext, upd, *])) ?_ | refine a2i (by decide) (by kernel_rfl) ?_ | refine a1j (by decide) ?_ | refine Kont.go hK ?_; clear hK K | refine KT.go hT ?_; clear hT hE T E | refine KT.go hE ?_; clear hT hE T E
  | simp [*, -List.all_flatten, -List.all_eq_true, DEFM, LENB, List.take_length, asR, a4u, a3r, FV.cellV, a2r, b2n, fB, a2g, a1t, a2f, hdN, a1h, a0v, a1n, a1b, a1c, a2z, a3a, a3b, anR, a6r, a6q, a3y, a4f, a3u, MG_t, MG_f, rmvs, a0j, a3t, a0f, a3i, a0b, a0d, FnD.row, Ins.row]
theorem e4f {p : Pg} (hp : VOk p) {B : Heap} {Y : Pts} {g : Bool} (hy : Shp p Y) (hB : BsM p 2 B) {o : Int} (h0 : 0 < o) (h1 : o < ((a0t p).length : Int)) {f j : Nat} (hf : f < p.funcs.length) (hj : j < p.funcs[f].code.length) (hol0 : o.toNat < (a0t p).length) (es : (a0t p)[o.toNat] = ((f : Int), (j : Int))) (q1 : (p.funcs[f]'hf).code[j].op = 24) (q2 : wrR p Y o = false) : FC Tryz.prog Gl 176 [.ptr [81] 8 0 0, .int .i64 o] (HP [] B (MF p Y g)) (.sl [2, 47] 1 0 1) (HP [([2, 47], .cells 3 1 ([[.int .i64 (p.funcs[f]'hf).code[j].b]]))] B (MF p Y g)) := by
 have hsv := a3v hp
 have fB : ∀ r, B (2 :: r) = none := fun r => (hB Y g Y g hy hy).fb 2 r (by decide)
 have y3 := hy.rn
 have hi2 : ∀ (L : List (FM.Loc × FO)), inH (HP L B (MF p Y g)) [81] := fun L => a3s a3y
 have es1 : ((a0t p)[o.toNat]'hol0).1 = (f : Int) := by rw [es]
 have es2 : ((a0t p)[o.toNat]'hol0).2 = (j : Int) := by rw [es]
 have hge : 0 <= o := by omega
 clear es
 refine a5y (res := [.tmp 4]) 10 68 [54, 53, 52] (fun d ix => 2 :: d :: ix) (fn := Tryz.f176) (by kernel_rfl) (by rfl) (by rfl) (by rfl) (by simp) (by decide) ?_
 repeat' first
  | ((with_reducible refine cgH ?_); refine a7w rfl (b1p hp hy hB (by decide) ?_ ?_ _) ?_; (focus rfl); (focus (first | rfl | (simp [ninL, ninO, a3o, nins, nin, a0d, a0g, a0a, a1k, a0c, a0b, a2j, mapO, a2m, a1h, a0v, hdN, *]; done))))
  | ((with_reducible refine b9x ?_); refine c5z (g := g) (r := [47]) (xs := [[.int .i64 (p.funcs[f]'hf).code[j].b]]) hy hB ?_ ?_ ?_ (by rfl) (fun _ => ⟨⟨trivial, trivial⟩, trivial⟩); (focus (simp [a0e]; done)); (focus rfl); (focus (simp [a1w, a2d]; done)))
  | with_reducible first | refine a3m (id := 3) 15 a1v (by kernel_rfl) fun K hK => ?_ | refine stp ?_ | refine stpK ?_; intro K hK | refine stpC ?_; intro T E hT hE | refine stp2 ?_ ?_ <;> intro h | refine a0x rfl ?_ | refine a1a rfl (Nat.le_of_ble_eq_true rfl) a0z ?_ | refine a1a rfl (Nat.le_of_ble_eq_true rfl) (a0y (by simp [HPXB, a2f, fB, ext, upd, *])) ?_ | refine a2i (by decide) (by kernel_rfl) ?_ | refine a1j (by decide) ?_ | refine Kont.go hK ?_; clear hK K | refine KT.go hT ?_; clear hT hE T E | refine KT.go hE ?_; clear hT hE T E
  | simp [*, -List.all_flatten, -List.all_eq_true, DEFM, LENB, List.take_length, asR, a4u, a3r, FV.cellV, a2r, b2n, fB, a2g, a1t, a2f, hdN, a1h, a0v, a1n, a1b, a1c, a2z, a3a, a3b, anR, a6r, a6q, a3y, a4f, a3u, MG_t, MG_f, rmvs, a0j, a3t, a0f, a3i, a0b, a0d, FnD.row, Ins.row, ints, List.map]
theorem d6w {p : Pg} (hp : VOk p) {B : Heap} {Y : Pts} {g : Bool} (hy : Shp p Y) (hB : BsM p 2 B) {o : Int} (h0 : 0 < o) (h1 : o < ((a0t p).length : Int)) {f j : Nat} (hf : f < p.funcs.length) (hj : j < p.funcs[f].code.length) (hol0 : o.toNat < (a0t p).length) (es : (a0t p)[o.toNat] = ((f : Int), (j : Int))) (q1 : (p.funcs[f]'hf).code[j].op = 24) (q2 : wrR p Y o = true) : FC Tryz.prog Gl 176 [.ptr [81] 8 0 0, .int .i64 o] (HP [] B (MF p Y g)) (.sl [2, 1000] 1 0 (oneP p.funcs p.funcs.length).length) (HP [([2, 1000], .cells 3 1 (ints (oneP p.funcs p.funcs.length)))] B (MF p Y g)) := by
 have hsv := a3v hp
 have fB : ∀ r, B (2 :: r) = none := fun r => (hB Y g Y g hy hy).fb 2 r (by decide)
 have y3 := hy.rn
 have hi2 : ∀ (L : List (FM.Loc × FO)), inH (HP L B (MF p Y g)) [81] := fun L => a3s a3y
 have es1 : ((a0t p)[o.toNat]'hol0).1 = (f : Int) := by rw [es]
 have es2 : ((a0t p)[o.toNat]'hol0).2 = (j : Int) := by rw [es]
 have hge : 0 <= o := by omega
 clear es
 refine a5y (res := [.tmp 4]) 10 68 [54, 53, 52] (fun d ix => 2 :: d :: ix) (fn := Tryz.f176) (by kernel_rfl) (by rfl) (by rfl) (by rfl) (by simp) (by decide) ?_
 repeat' first
  | ((with_reducible refine a2c ?_); refine a3f (σ := {i : Nat // i <= p.funcs.length}) (fun y => [(8, .undef), (9, .undef), (7, .sl [2, 1000] 1 0 (oneP p.funcs y.1).length)]) [53, 52] (fun y => [(54, .int .i64 (y.1 : Int))]) [[2, 9]] (fun y => [([2, 1000], .cells 3 1 (ints (oneP p.funcs y.1)))]) (fun y => MF p Y g) (fun y => p.funcs.length - y.1) ⟨0, by simp⟩ (gk3i (j := 2) [] (hB _ _ _ _ hy hy) ?_ ?_ ?_ ?_ ?_ ?_ ?_) ?_; (iterate 7 (focus (first | rfl | (simp [LPXB, *, SIMB, hdN, injB, d2e, fB, a2g, a1t, a2f, hdN, a1h, a0v]; done)))); rintro ⟨i, hi⟩; simp only [lpS, LPXB]; (try dsimp only at hi); rcases a1y hi with hlt | ⟨hlt, rfl⟩; have hnf := hp.nf; have wi := wli hlt (by omega); have hol := b4u p.funcs i; have hs := szn (n := (oneP p.funcs i).length + 1) (k := 8) (by omega) (by decide); have hs2 : (oneP p.funcs i).length + 1 <= 4611686018427387904 := (by omega); by_cases hq : (p.funcs[i]'hlt).params = 1)
  | ((with_reducible refine a1m ?_); refine a2a (⟨i + 1, by omega⟩) (gk3i (j := 2) [] (hB _ _ _ _ hy hy) ?_ ?_ ?_ ?_ ?_ ?_ ?_) ?_; (iterate 7 (focus (have e := b9s hlt hq; first | rfl | (simp [LPXB, *, SIMB, hdN, injB, a2r, fB, a2g, a1t, a2f, hdN, a1h, a0v]; done)))); (focus (dsimp only; omega)))
  | ((with_reducible refine a1m ?_); refine a2a (⟨i + 1, by omega⟩) (gk3i (j := 2) [] (hB _ _ _ _ hy hy) ?_ ?_ ?_ ?_ ?_ ?_ ?_) ?_; (iterate 7 (focus (have e := c3k hlt hq; first | rfl | (simp [LPXB, *, SIMB, hdN, injB, fB, a2g, a1t, a2f, hdN, a1h, a0v]; done)))); (focus (dsimp only; omega)))
  | ((with_reducible refine cgH ?_); refine a7w rfl (b1p hp hy hB (by decide) ?_ ?_ _) ?_; (focus rfl); (focus (first | rfl | (simp [ninL, ninO, a3o, nins, nin, a0d, a0g, a0a, a1k, a0c, a0b, a2j, mapO, a2m, a1h, a0v, hdN, *]; done))))
  | ((with_reducible refine b9x ?_); refine c5z (g := g) (r := [1000]) (xs := ints (oneP p.funcs p.funcs.length)) hy hB ?_ ?_ ?_ (a0c _) (b3h _); (focus (simp [a0e]; done)); (focus rfl); (focus (simp [a1w, a2d]; done)))
  | with_reducible first | refine a3m (id := 3) 15 a1v (by kernel_rfl) fun K hK => ?_ | refine stp ?_ | refine stpK ?_; intro K hK | refine stpC ?_; intro T E hT hE | refine stp2 ?_ ?_ <;> intro h | refine a0x rfl ?_ | refine a1a rfl (Nat.le_of_ble_eq_true rfl) a0z ?_ | refine a1a rfl (Nat.le_of_ble_eq_true rfl) (a0y (by simp [HPXB, a2f, fB, ext, upd, *])) ?_ | refine a2i (by decide) (by kernel_rfl) ?_ | refine a1j (by decide) ?_ | refine Kont.go hK ?_; clear hK K | refine KT.go hT ?_; clear hT hE T E | refine KT.go hE ?_; clear hT hE T E
  | simp [*, -List.all_flatten, -List.all_eq_true, DEFM, LENB, List.take_length, asR, a4u, a3r, FV.cellV, a2r, b2n, fB, a2g, a1t, a2f, hdN, a1h, a0v, a1n, a1b, a1c, a2z, a3a, a3b, anR, a6r, a6q, a3y, a4f, a3u, MG_t, MG_f, rmvs, a0j, a3t, a0f, a3i, a0b, a0d, FnD.row, Ins.row]
theorem f3i {p : Pg} (hp : VOk p) {B : Heap} {Y : Pts} {g : Bool} (hy : Shp p Y) (hB : BsM p 2 B) {o : Int} (h0 : 0 < o) (h1 : o < ((a0t p).length : Int)) {f j : Nat} (hf : f < p.funcs.length) (hj : j < p.funcs[f].code.length) (hol0 : o.toNat < (a0t p).length) (es : (a0t p)[o.toNat] = ((f : Int), (j : Int))) (q1 : ¬ (p.funcs[f]'hf).code[j].op = 23) (q2 : ¬ (p.funcs[f]'hf).code[j].op = 24) : FC Tryz.prog Gl 176 [.ptr [81] 8 0 0, .int .i64 o] (HP [] B (MF p Y g)) (.sl [2, 1000] 1 0 (oneP p.funcs p.funcs.length).length) (HP [([2, 1000], .cells 3 1 (ints (oneP p.funcs p.funcs.length)))] B (MF p Y g)) := by
 have hsv := a3v hp
 have fB : ∀ r, B (2 :: r) = none := fun r => (hB Y g Y g hy hy).fb 2 r (by decide)
 have y3 := hy.rn
 have hi2 : ∀ (L : List (FM.Loc × FO)), inH (HP L B (MF p Y g)) [81] := fun L => a3s a3y
 have es1 : ((a0t p)[o.toNat]'hol0).1 = (f : Int) := by rw [es]
 have es2 : ((a0t p)[o.toNat]'hol0).2 = (j : Int) := by rw [es]
 have hge : 0 <= o := by omega
 clear es
 refine a5y (res := [.tmp 4]) 10 68 [54, 53, 52] (fun d ix => 2 :: d :: ix) (fn := Tryz.f176) (by kernel_rfl) (by rfl) (by rfl) (by rfl) (by simp) (by decide) ?_
 repeat' first
  | ((with_reducible refine a2c ?_); refine a3f (σ := {i : Nat // i <= p.funcs.length}) (fun y => [(8, .undef), (9, .undef), (7, .sl [2, 1000] 1 0 (oneP p.funcs y.1).length)]) [53, 52] (fun y => [(54, .int .i64 (y.1 : Int))]) [[2, 9]] (fun y => [([2, 1000], .cells 3 1 (ints (oneP p.funcs y.1)))]) (fun y => MF p Y g) (fun y => p.funcs.length - y.1) ⟨0, by simp⟩ (gk3i (j := 2) [] (hB _ _ _ _ hy hy) ?_ ?_ ?_ ?_ ?_ ?_ ?_) ?_; (iterate 7 (focus (first | rfl | (simp [LPXB, *, SIMB, hdN, injB, d2e, fB, a2g, a1t, a2f, hdN, a1h, a0v]; done)))); rintro ⟨i, hi⟩; simp only [lpS, LPXB]; (try dsimp only at hi); rcases a1y hi with hlt | ⟨hlt, rfl⟩; have hnf := hp.nf; have wi := wli hlt (by omega); have hol := b4u p.funcs i; have hs := szn (n := (oneP p.funcs i).length + 1) (k := 8) (by omega) (by decide); have hs2 : (oneP p.funcs i).length + 1 <= 4611686018427387904 := (by omega); by_cases hq : (p.funcs[i]'hlt).params = 1)
  | ((with_reducible refine a1m ?_); refine a2a (⟨i + 1, by omega⟩) (gk3i (j := 2) [] (hB _ _ _ _ hy hy) ?_ ?_ ?_ ?_ ?_ ?_ ?_) ?_; (iterate 7 (focus (have e := b9s hlt hq; first | rfl | (simp [LPXB, *, SIMB, hdN, injB, a2r, fB, a2g, a1t, a2f, hdN, a1h, a0v]; done)))); (focus (dsimp only; omega)))
  | ((with_reducible refine a1m ?_); refine a2a (⟨i + 1, by omega⟩) (gk3i (j := 2) [] (hB _ _ _ _ hy hy) ?_ ?_ ?_ ?_ ?_ ?_ ?_) ?_; (iterate 7 (focus (have e := c3k hlt hq; first | rfl | (simp [LPXB, *, SIMB, hdN, injB, fB, a2g, a1t, a2f, hdN, a1h, a0v]; done)))); (focus (dsimp only; omega)))
  | ((with_reducible refine cgH ?_); refine a7w rfl (b1p hp hy hB (by decide) ?_ ?_ _) ?_; (focus rfl); (focus (first | rfl | (simp [ninL, ninO, a3o, nins, nin, a0d, a0g, a0a, a1k, a0c, a0b, a2j, mapO, a2m, a1h, a0v, hdN, *]; done))))
  | ((with_reducible refine b9x ?_); refine c5z (g := g) (r := [1000]) (xs := ints (oneP p.funcs p.funcs.length)) hy hB ?_ ?_ ?_ (a0c _) (b3h _); (focus (simp [a0e]; done)); (focus rfl); (focus (simp [a1w, a2d]; done)))
  | with_reducible first | refine a3m (id := 3) 15 a1v (by kernel_rfl) fun K hK => ?_ | refine stp ?_ | refine stpK ?_; intro K hK | refine stpC ?_; intro T E hT hE | refine stp2 ?_ ?_ <;> intro h | refine a0x rfl ?_ | refine a1a rfl (Nat.le_of_ble_eq_true rfl) a0z ?_ | refine a1a rfl (Nat.le_of_ble_eq_true rfl) (a0y (by simp [HPXB, a2f, fB, ext, upd, *])) ?_ | refine a2i (by decide) (by kernel_rfl) ?_ | refine a1j (by decide) ?_ | refine Kont.go hK ?_; clear hK K | refine KT.go hT ?_; clear hT hE T E | refine KT.go hE ?_; clear hT hE T E
  | simp [*, -List.all_flatten, -List.all_eq_true, DEFM, LENB, List.take_length, asR, a4u, a3r, FV.cellV, a2r, b2n, fB, a2g, a1t, a2f, hdN, a1h, a0v, a1n, a1b, a1c, a2z, a3a, a3b, anR, a6r, a6q, a3y, a4f, a3u, MG_t, MG_f, rmvs, a0j, a3t, a0f, a3i, a0b, a0d, FnD.row, Ins.row]
theorem c1c {p : Pg} (hp : VOk p) {B : Heap} {Y : Pts} {g : Bool} (hy : Shp p Y) (hB : BsM p 2 B) {o : Int} (h1 : o < ((a0t p).length : Int)) : FC Tryz.prog Gl 176 [.ptr [81] 8 0 0, .int .i64 o] (HP [] B (MF p Y g)) (.list 1 (ints (a5u p Y o))) (HP [] B (MF p Y g)) := by
 by_cases h0 : 0 < o
 . obtain ⟨hol0, f, hf, j, hj, es⟩ := e4q p h0 h1
   have hfu := d9e hy h0 hf hj hol0 es
   by_cases q1 : p.funcs[f].code[j].op = 23
   . rw [hfu, if_pos q1]
     exact (e4g hp hy hB h0 h1 hf hj hol0 es q1).asR' (.inr ⟨1, rfl⟩)
   . by_cases q2 : p.funcs[f].code[j].op = 24
     . cases q3 : wrR p Y o
       . rw [hfu, if_neg q1, if_pos ⟨q2, q3⟩]
         exact c5y (xs := ints [p.funcs[f].code[j].b]) hy hB (by simp [a0e]) (e4f hp hy hB h0 h1 hf hj hol0 es q2 q3) (a0c _)
       . rw [hfu, if_neg q1, if_neg (by rw [q3]; simp)]
         exact c5y hy hB (by simp [a0e]) (d6w hp hy hB h0 h1 hf hj hol0 es q2 q3) (a0c _)
     . rw [hfu, if_neg q1, if_neg fun h => q2 h.1]
       exact c5y hy hB (by simp [a0e]) (f3i hp hy hB h0 h1 hf hj hol0 es q1 q2) (a0c _)
 . rw [f6d h0]
   exact c5y hy hB (by simp [a0e]) (f3j hp hy hB h0) (a0c _)
theorem e6u (a b : Int) (off : Nat) : ∀ (l : List (Int × Int)) (g : Nat -> Nat) (k : Nat), a8v Tryz.prog 98 (.agg [.int .i64 a, .int .i64 b]) (l.mapIdx fun i s => (FV.agg [.int .i64 s.1, .int .i64 s.2], FV.int .i64 ((i : Int) + (off : Int)), g i)) k = some ((l.findIdx? (fun y => decide (y = (a, b)))).map fun n => (k + n, FV.int .i64 ((n : Int) + (off : Int))))
 | [], _, _ => rfl
 | s :: l, g, k => by
   have ih := e6u a b (off + 1) l (fun i => g (i + 1)) (k + 1)
   rw [List.mapIdx_cons]
   have hk : eqK Tryz.prog 98 (.agg [.int .i64 a, .int .i64 b]) (.agg [.int .i64 s.1, .int .i64 s.2]) = some (decide (s = (a, b))) := by
    obtain ⟨u, v⟩ := s
    by_cases e1 : a = u <;> by_cases e2 : b = v <;> simp [eqK, c0m, c0l, a4p, FV.kd, eqV, e1, e2, Prod.ext_iff, eq_comm]
   simp only [a8v, hk, List.findIdx?_cons]
   by_cases e : s = (a, b)
   . simp [e]
   . simp only [e, decide_false, Bool.false_eq_true, if_false, Option.map_map]
     have e2 : (l.mapIdx fun i s => (FV.agg [.int .i64 s.1, .int .i64 s.2], FV.int .i64 (((i + 1 : Nat) : Int) + (off : Int)), g (i + 1))) = l.mapIdx fun i s => (FV.agg [.int .i64 s.1, .int .i64 s.2], FV.int .i64 ((i : Int) + ((off + 1 : Nat) : Int)), g (i + 1)) := by
      congr 1; funext i s
      have : ((i + 1 : Nat) : Int) + (off : Int) = (i : Int) + ((off + 1 : Nat) : Int) := by omega
      rw [this]
     rw [e2, ih]
     congr 1
     cases l.findIdx? (fun y => decide (y = (a, b))) with
     | none => rfl
     | some n =>
       simp only [Option.map_some, Function.comp, Option.some.injEq, Prod.mk.injEq]
       refine ⟨by omega, ?_⟩
       have : (n : Int) + ((off + 1 : Nat) : Int) = ((n + 1 : Nat) : Int) + (off : Int) := by omega
       rw [this]
theorem d2r {H : Heap} {l : List (Int × Int)} {c : Nat} (h : H [87] = some (.map (sitE l) c)) (a b : Int) : b2y Tryz.prog H 134 (.mp [87]) (.agg [.int .i64 a, .int .i64 b]) false = some (.int .i64 (objR l (a, b) : Nat)) := by
 have hk : a9k Tryz.prog 98 (.agg [.int .i64 a, .int .i64 b]) = true := by simp [a9k, c0m, c0l]
 have hf := e6u a b 1 (l.drop 1) (fun i => i) 0
 simp only [b2y, c2f, hk, if_true, h]
 unfold sitE
 have e1 : ((1 : Nat) : Int) = 1 := rfl
 rw [e1] at hf
 rw [hf]
 unfold objR
 cases hx : (l.drop 1).findIdx? (fun y => decide (y = (a, b))) with
 | none => simp [d4j]
 | some n => simp
def bxs (p : Pg) (f pc nr : Nat) (X : Ins) (fk : FuncId) : List (FM.Loc × FO) := [([3, 4], .cells 131 1 [[.ptr [81] 8 0 0]]), ([3, 5], .cells 98 2 [[.int .i64 (f : Int), .int .i64 (pc : Int)]]), ([3, 6], .cells 42 5 [X.row]), ([3, 7], .cells 143 1 [[.clo fk [] [.ptr [88] 1 0 0]]]), ([3, 8], .cells 136 1 [[.sl [83, f] 1 0 nr]])]
theorem cl1M {p : Pg} {m : Bool} {fk : FuncId} (hCT : CT p m fk) (hfk : fnOk Tryz.prog fk = true) {B : Heap} {L : List (FM.Loc × FO)} {Y : Pts} {g : Bool} {f : Nat} {hf : f < p.funcs.length} (hy : Shp p Y) (hB : BsM p 3 B) (hl : hdN 3 (L.map Prod.fst) = true) (hn : ninL (inH (HP L B (MF p Y g))) L) {nr : Nat} (hnr : p.funcs[f].regs = (nr : Int)) (hX : BxC (updL L B) f nr fk) {a e : Int} (ha : isR p.funcs[f] a) (he : isR p.funcs[f] e) :
 FCr Tryz.prog Gl 172 [.int .i64 e, .int .i64 a, .ptr [3, 8] 1 0 0, .ptr [3, 7] 1 0 0, .ptr [3, 4] 1 0 0] (HP [] (updL L B) (MF p Y g)) (OutT p m (updL L B) (fun z => ∀ o ∈ getS z (SL.r f a.toNat), rdC f e z o) Y g) := g7k hCT hfk hy (hB.call 2 (by decide) hy hl hn) hnr hX ha he
theorem cl2M {p : Pg} {m : Bool} {fk : FuncId} (hCT : CT p m fk) (hfk : fnOk Tryz.prog fk = true) {B : Heap} {L : List (FM.Loc × FO)} {Y : Pts} {g : Bool} {f : Nat} {hf : f < p.funcs.length} (hy : Shp p Y) (hB : BsM p 3 B) (hl : hdN 3 (L.map Prod.fst) = true) (hn : ninL (inH (HP L B (MF p Y g))) L) {nr : Nat} (hnr : p.funcs[f].regs = (nr : Int)) (hX : BxC (updL L B) f nr fk) {a e : Int} (ha : isR p.funcs[f] a) (he : isR p.funcs[f] e) :
 FCr Tryz.prog Gl 173 [.int .i64 a, .int .i64 e, .ptr [3, 8] 1 0 0, .ptr [3, 7] 1 0 0, .ptr [3, 4] 1 0 0] (HP [] (updL L B) (MF p Y g)) (OutT p m (updL L B) (fun z => ∀ o ∈ getS z (SL.r f a.toNat), wrC f e z o) Y g) := g7j hCT hfk hy (hB.call 2 (by decide) hy hl hn) hnr hX ha he
theorem ok1 {p : Pg} {o : Int} (h0 : 0 <= o) (h1 : o < ((a0t p).length : Int)) : okA (a0t p).length [o] := ⟨by simp, fun q hq => by simp at hq; subst hq; exact ⟨h0, h1⟩⟩
theorem g9l {m : Bool} {C : Pts -> Prop} {Y Z : Pts} {g h : Bool} {to fr : SL} (hT : TR m (inS to (getS Y fr)) (inS to (getS Y fr)) Y g Z h) (hk : ∀ z, C z ↔ subR (getS z to) (getS z fr)) : TR m C C Y g Z h :=
 (TR.id trivial : TR m (fun _ => True) (fun _ => True) Y g Y g).stepk hT fun z => by rw [hk z]; simp
theorem f5c {p : Pg} {B : Heap} {Z : Pts} {h : Bool} (f pc : Nat) (L : List (FM.Loc × FO)) : b2y Tryz.prog (HP L B (MF p Z h)) 134 (.mp [87]) (.agg [.int .i64 (f : Int), .int .i64 (pc : Int)]) false = some (.int .i64 (objR (a0t p) ((f : Int), (pc : Int)) : Nat)) := d2r a9q _ _
theorem g1s {p : Pg} (hp : VOk p) {m : Bool} {fk : FuncId} (hCT : CT p m fk) (hfk : fnOk Tryz.prog fk = true) {B : Heap} {L : List (FM.Loc × FO)} {Y : Pts} {g : Bool} {f : Nat} (hf : f < p.funcs.length) (hy : Shp p Y) (hB : BsM p 3 B) (hl : hdN 3 (L.map Prod.fst) = true) (hn : ninL (inH (HP L B (MF p Y g))) L) {nr nb : Nat} (hnr : p.funcs[f].regs = (nr : Int)) {X : Ins} (hI : InsOk p p.funcs[f] X) (hbr : opR p p.funcs[f] X 102 X.b = true) (hxb : X.b = (nb : Int)) (hnb : nb < p.funcs.length) (ha : X.op = 26 -> X.a < (nr : Int)) :
 FCr Tryz.prog Gl 175 [.ptr [81] 8 0 0, .agg X.row, .sl [83, f] 1 0 nr, .clo fk [] [.ptr [88] 1 0 0]] (HP [] (updL L B) (MF p Y g)) (OutT p m (updL L B) (b7e f X nb p.funcs[nb].params.toNat p.funcs[nb].code) Y g) := by
 have hB' := hB.call 2 (by decide) hy hl hn
 have hrr := hp.regs (List.getElem_mem hnb)
 have hfr := hp.regs (List.getElem_mem hf)
 obtain ⟨k1, k2, k3, k4⟩ := b0l hp (List.getElem_mem hf) hbr
 have hfa : fnAt p X.b = p.funcs[nb] := by unfold fnAt; rw [hxb, Int.toNat_natCast, List.getD_eq_getElem?_getD, List.getElem?_eq_getElem hnb, Option.getD_some]
 rw [hfa] at k4
 have p0 := hrr.p0
 have p1 := hrr.p1
 have r64 := hrr.r64
 have f64 := hfr.r64
 obtain ⟨np, hnp⟩ : ∃ np : Nat, p.funcs[nb].params = (np : Int) := ⟨p.funcs[nb].params.toNat, by omega⟩
 obtain ⟨nr2, hnr2⟩ : ∃ nr2 : Nat, p.funcs[nb].regs = (nr2 : Int) := ⟨p.funcs[nb].regs.toNat, by omega⟩
 rw [hnp, Int.toNat_natCast]
 have e1 : np <= nr2 := by omega
 have e2 : nr2 <= 64 := by omega
 have e3 : nr <= 64 := by omega
 have e4 : X.c + np <= nr := by omega
 by_cases q1 : X.op = 26
 . by_cases q2 : X.a < 0
   . exact d6x hCT hfk hf hy hB' hnr hxb hnb hnr2 hnp e1 e2 e3 k3 e4 q1 q2
   . exact e4h hCT hfk hf hy hB' hnr hxb hnb hnr2 hnp e1 e2 e3 k3 e4 q1 q2 (ha q1) hrr.c1000 fun n hn h30 => by
      have := (hp.ins _ (List.getElem_mem hnb) n hn).a
      rw [h30] at this
      have := (b1t (r := 82) this (.inr rfl)).2
      omega
 . exact d6y hCT hfk hf hy hB' hnr hxb hnb hnr2 hnp e1 e2 e3 k3 e4 q1
theorem c3w {p : Pg} (hp : VOk p) {B : Heap} {L : List (FM.Loc × FO)} {Y : Pts} {g : Bool} (hy : Shp p Y) (hB : BsM p 3 B) (hl : hdN 3 (L.map Prod.fst) = true) (hn : ninL (inH (HP L B (MF p Y g))) L) {o : Int} (h1 : o < ((a0t p).length : Int)) : FC Tryz.prog Gl 176 [.ptr [81] 8 0 0, .int .i64 o] (HP [] (updL L B) (MF p Y g)) (.list 1 (ints (a5u p Y o))) (HP [] (updL L B) (MF p Y g)) := c1c hp hy (hB.call 2 (by decide) hy hl hn) h1
theorem a2h {l k : FM.Loc} {o : FO} {L : List (FM.Loc × FO)} {B A : Heap} : inH (HP ((k, o) :: L) B A) l = (l = k \/ inH (HP L B A) l) := by
 refine propext ⟨fun h => ?_, fun h => ?_⟩
 . by_cases e : l = k
   . exact .inl e
   . refine .inr fun h' => h ?_
     obtain ⟨h1, h2⟩ := a4r.1 h'
     exact a4r.2 ⟨h1, by simpa [updL, upd, e] using h2⟩
 . rcases h with rfl | h
   . exact a1h
   . exact a0v h
theorem gs0 {z : Pts} {f : Nat} : getS z (.r f 0) = rg z f 0 := rfl
theorem gsr {z : Pts} {f : Nat} {a : Int} : getS z (.r f a.toNat) = rg z f a := a7n z f a
theorem c4p {p : Pg} (hp : VOk p) {m : Bool} {fk : FuncId} (hCT : CT p m fk) (hfk : fnOk Tryz.prog fk = true) {B : Heap} {L : List (FM.Loc × FO)} {Y : Pts} {g : Bool} {f : Nat} (hf : f < p.funcs.length) (hy : Shp p Y) (hB : BsM p 3 B) {nr nb : Nat} (hnr : p.funcs[f].regs = (nr : Int)) {X : Ins} (hI : InsOk p p.funcs[f] X) (hbr : opR p p.funcs[f] X 102 X.b = true) (hxb : X.b = (nb : Int)) (hnb : nb < p.funcs.length) (ha : X.op = 26 -> X.a < (nr : Int)) {v : Int} (hop : X.op = v) (hl : hdN 3 (L.map Prod.fst) = true) (hn : ninL (inH (HP L B (MF p Y g))) L) :
 FCr Tryz.prog Gl 175 [.ptr [81] 8 0 0, .agg [.int .i64 v, .int .i64 X.a, .int .i64 (nb : Int), .int .i64 X.c, .int .i64 X.d], .sl [83, f] 1 0 nr, .clo fk [] [.ptr [88] 1 0 0]] (HP [] (updL L B) (MF p Y g)) (OutT p m (updL L B) (b7e f X nb p.funcs[nb].params.toNat p.funcs[nb].code) Y g) := by
 have h := g1s hp hCT hfk hf hy hB hl hn hnr hI hbr hxb hnb ha
 subst hop
 rw [<- hxb]; exact h
theorem b7d {p : Pg} {f pc nb : Nat} {X : Ins} (hxb : X.b = (nb : Int)) (hnb : nb < p.funcs.length) (q : X.op = 26 \/ X.op = 28 \/ X.op = 31) (z : Pts) : a3z p f pc X z ↔ b7e f X nb p.funcs[nb].params.toNat p.funcs[nb].code z := by
 have hfa : fnAt p X.b = p.funcs[nb] := by unfold fnAt; rw [hxb, Int.toNat_natCast, List.getD_eq_getElem?_getD, List.getElem?_eq_getElem hnb, Option.getD_some]
 have hN : X.b.toNat = nb := by rw [hxb, Int.toNat_natCast]
 have key : a3z p f pc X z ↔ (∀ i : Nat, i < (fnAt p X.b).params.toNat -> subR (rg z X.b.toNat i) (rg z f (X.c + i))) /\ (X.op = 26 /\ 0 <= X.a -> ∀ m ∈ (fnAt p X.b).code, m.op = 30 /\ 0 <= m.a -> subR (rg z f X.a) (rg z X.b.toNat m.a)) := by
  rcases q with q | q | q <;> simp [a3z, q, alO]
 rw [key, hfa, hN]
 unfold b7e prC rtC
 refine and_congr Iff.rfl ⟨fun h h0 j hj _ hc => h h0 _ (List.getElem_mem hj) hc, fun h h0 m hm hc => ?_⟩
 obtain ⟨j, hj, rfl⟩ := List.getElem_of_mem hm
 exact h h0 j hj hj hc
theorem c_26 {p : Pg} (hp : VOk p) {m : Bool} {fk : FuncId} (hCT : CT p m fk) (hfk : fnOk Tryz.prog fk = true) {B : Heap} {Y : Pts} {g : Bool} {f pc : Nat} (hf : f < p.funcs.length) {X : Ins} (hI : InsOk p p.funcs[f] X) (hy : Shp p Y) (hB : BsM p 3 B) (q : X.op = 26) : FCr Tryz.prog Gl 141 [.ptr [81] 8 0 0, .agg [.int .i64 (f : Int), .int .i64 (pc : Int)], .agg X.row, .clo fk [] [.ptr [88] 1 0 0]] (HP [] B (MF p Y g)) (OutT p m B (a3z p f pc X) Y g) := by
 have hsv := a3v hp
 have fB : ∀ r, B (3 :: r) = none := fun r => (hB Y g Y g hy hy).fb 3 r (by decide)
 have y3 := hy.rn
 have y4 := hy.cn
 have hrr := hp.regs (List.getElem_mem hf)
 obtain ⟨y1, y2⟩ := hy.at hf
 obtain ⟨nr, hnr⟩ : ∃ nr : Nat, p.funcs[f].regs = (nr : Int) := ⟨p.funcs[f].regs.toNat, by have := hrr.p0; have := hrr.p1; omega⟩
 rw [hnr, Int.toNat_natCast] at y2
 have hnr64 : nr <= 64 := by have := hrr.r64; omega
 have hIa := hI.a
 have hIb := hI.b
 have hIc := hI.c
 have hi1 : ∀ (L : List (FM.Loc × FO)) (Z : Pts) (h : Bool), inH (HP L B (MF p Z h)) [88] := fun L Z h => a7u
 have hi2 : ∀ (L : List (FM.Loc × FO)) (Z : Pts) (h : Bool), inH (HP L B (MF p Z h)) [81] := fun L Z h => a3s a3y
 have hi3 : ∀ (L : List (FM.Loc × FO)) (Z : Pts) (h : Bool), Shp p Z -> inH (HP L B (MF p Z h)) [83, f] := fun L Z h hZ => a3s (a4f (hZ.at hf).1)
 have hbr : opR p p.funcs[f] X 102 X.b = true := by have := hI.b; rw [q] at this; exact this
 obtain ⟨k1, k2, k3, k4⟩ := b0l hp (List.getElem_mem hf) hbr
 obtain ⟨nb, hxb⟩ : ∃ nb : Nat, X.b = (nb : Int) := ⟨X.b.toNat, by omega⟩
 have hnb : nb < p.funcs.length := by omega
 have ha26 : X.op = 26 -> X.a < (nr : Int) := fun e => by have := hI.a; rw [e] at this; have := (b1t this (.inl rfl)).2; omega
 refine a4b (res := []) 16 210 [27, 63, 62, 183, 192, 191, 190] (fun d ix => 3 :: d :: ix) (fn := Tryz.f141) (by kernel_rfl) (by rfl) (by rfl) (by rfl) (by simp) (by decide) ?_
 repeat' first
  | ((with_reducible refine a1z (id := 24) fun K hK => ?_); refine a1i 3 ?_)
  | ((with_reducible refine a1z (id := 27) fun K hK => ?_); refine a1i 5 ?_)
  | ((with_reducible refine a1z (id := 31) fun K hK => ?_); refine a1i 5 ?_)
  | ((with_reducible refine a1z (id := 33) fun K hK => ?_); refine a1i 6 ?_)
  | ((with_reducible refine a1z (id := 36) fun K hK => ?_); refine a1i 5 ?_)
  | ((with_reducible refine a1z (id := 39) fun K hK => ?_); refine a1i 5 ?_)
  | ((with_reducible refine a1z (id := 41) fun K hK => ?_); refine a1i 5 ?_)
  | ((with_reducible refine a1z (id := 45) fun K hK => ?_); refine a1i 4 ?_)
  | with_reducible first | refine a2b (id := 6) [] 7 a1v (by kernel_rfl) fun K hK => ?_ | refine a2b (id := 12) [] 8 a1v (by kernel_rfl) fun K hK => ?_ | refine a2b (id := 17) [] 16 a1v (by kernel_rfl) fun K hK => ?_ | refine a2b (id := 22) [] 11 a1v (by kernel_rfl) fun K hK => ?_ | refine a2b (id := 55) [] 12 a1v (by kernel_rfl) fun K hK => ?_ | refine a4q ?_
  | ((with_reducible refine mdH ?_); refine a3n (by kernel_rfl) (fun d hd => ?_) rfl (c4p hp hCT hfk hf hy hB hnr hI hbr hxb hnb ha26 q ?_ ?_) ?_; (focus (cases hd; exact Nat.le_of_ble_eq_true rfl)); (focus rfl); (focus (first | rfl | (simp [ninL, ninO, a3o, nins, nin, a0d, a0g, a0a, a1k, a0c, a0b, a2j, mapO, a2m, a2h, a1h, a0v, hdN, *]; done))); (rintro r' H' ⟨rfl, Z2, h2, rfl, hZ2, hT2⟩))
  | ((with_reducible refine lfH ?_); refine a7g (j := 3) (hB _ _ _ _ hy hZ2) rfl ⟨rfl, Z2, h2, rfl, hZ2, hT2.congr (b7d hxb hnb (.inl q))⟩ trivial)
  | with_reducible first | refine a4y ?_ | refine a7f ?_ | refine a3m (id := 1) 9 a1v (by kernel_rfl) fun K hK => ?_ | refine a3m (id := 11) 6 a1v (by kernel_rfl) fun K hK => ?_ | refine stp ?_ | refine stpK ?_; intro K hK | refine stpC ?_; intro T E hT hE | refine stp2 ?_ ?_ <;> intro h | refine a0x rfl ?_ | refine a1a rfl (Nat.le_of_ble_eq_true rfl) a0z ?_ | refine a1a rfl (Nat.le_of_ble_eq_true rfl) (a0y (by simp [HPXB, a2f, fB, ext, upd, *])) ?_ | refine a2i (by decide) (by kernel_rfl) ?_ | refine a1j (by decide) ?_ | refine Kont.go hK ?_; clear hK K | refine KT.go hT ?_; clear hT hE T E | refine KT.go hE ?_; clear hT hE T E
  | simp [*, -List.all_flatten, -List.all_eq_true, DEFM, fB, a2g, a1t, a2f, hdN, a1h, a0v, a2h, a1n, a1b, a1c, a2z, a3a, a3b, anR, a6r, a6q, a3y, a4f, a3u, MG_t, MG_f, rmvs, a0j, a3t, a0f, a3i, a0b, a0d, FnD.row, Ins.row, a9q, a3u, a9z, a9y]
theorem c_18 {p : Pg} (hp : VOk p) {m : Bool} {fk : FuncId} (hCT : CT p m fk) (hfk : fnOk Tryz.prog fk = true) {B : Heap} {Y : Pts} {g : Bool} {f pc : Nat} (hf : f < p.funcs.length) {X : Ins} (hI : InsOk p p.funcs[f] X) (hy : Shp p Y) (hB : BsM p 3 B) (q : X.op = 18) : FCr Tryz.prog Gl 141 [.ptr [81] 8 0 0, .agg [.int .i64 (f : Int), .int .i64 (pc : Int)], .agg X.row, .clo fk [] [.ptr [88] 1 0 0]] (HP [] B (MF p Y g)) (OutT p m B (a3z p f pc X) Y g) := by
 have hsv := a3v hp
 have fB : ∀ r, B (3 :: r) = none := fun r => (hB Y g Y g hy hy).fb 3 r (by decide)
 have y3 := hy.rn
 have y4 := hy.cn
 have hrr := hp.regs (List.getElem_mem hf)
 obtain ⟨y1, y2⟩ := hy.at hf
 obtain ⟨nr, hnr⟩ : ∃ nr : Nat, p.funcs[f].regs = (nr : Int) := ⟨p.funcs[f].regs.toNat, by have := hrr.p0; have := hrr.p1; omega⟩
 rw [hnr, Int.toNat_natCast] at y2
 have hnr64 : nr <= 64 := by have := hrr.r64; omega
 have hIa := hI.a
 have hIb := hI.b
 have hIc := hI.c
 have hi1 : ∀ (L : List (FM.Loc × FO)) (Z : Pts) (h : Bool), inH (HP L B (MF p Z h)) [88] := fun L Z h => a7u
 have hi2 : ∀ (L : List (FM.Loc × FO)) (Z : Pts) (h : Bool), inH (HP L B (MF p Z h)) [81] := fun L Z h => a3s a3y
 have hi3 : ∀ (L : List (FM.Loc × FO)) (Z : Pts) (h : Bool), Shp p Z -> inH (HP L B (MF p Z h)) [83, f] := fun L Z h hZ => a3s (a4f (hZ.at hf).1)
 have ha : isR p.funcs[f] X.a := a4n (r := (rR X.op).1) hIa (by rw [q]; decide)
 obtain ⟨a0, a1⟩ := id ha
 have aN : (X.a).toNat < nr := by omega
 have a2 : X.a < (nr : Int) := by omega
 have haS := hy.rok hf ha
 have hk : okA (a0t p).length [0] := ok1 (by omega) (by have := b0d p; omega)
 refine a4b (res := []) 16 210 [27, 63, 62, 183, 192, 191, 190] (fun d ix => 3 :: d :: ix) (fn := Tryz.f141) (by kernel_rfl) (by rfl) (by rfl) (by rfl) (by simp) (by decide) ?_
 repeat' first
  | ((with_reducible refine a1z (id := 24) fun K hK => ?_); refine a1i 3 ?_)
  | ((with_reducible refine a1z (id := 27) fun K hK => ?_); refine a1i 5 ?_)
  | ((with_reducible refine a1z (id := 31) fun K hK => ?_); refine a1i 5 ?_)
  | ((with_reducible refine a1z (id := 33) fun K hK => ?_); refine a1i 6 ?_)
  | ((with_reducible refine a1z (id := 36) fun K hK => ?_); refine a1i 5 ?_)
  | ((with_reducible refine a1z (id := 39) fun K hK => ?_); refine a1i 5 ?_)
  | ((with_reducible refine a1z (id := 41) fun K hK => ?_); refine a1i 5 ?_)
  | ((with_reducible refine a1z (id := 45) fun K hK => ?_); refine a1i 4 ?_)
  | with_reducible first | refine a2b (id := 6) [] 7 a1v (by kernel_rfl) fun K hK => ?_ | refine a2b (id := 12) [] 8 a1v (by kernel_rfl) fun K hK => ?_ | refine a2b (id := 17) [] 16 a1v (by kernel_rfl) fun K hK => ?_ | refine a2b (id := 22) [] 11 a1v (by kernel_rfl) fun K hK => ?_ | refine a2b (id := 55) [] 12 a1v (by kernel_rfl) fun K hK => ?_ | refine a4q ?_ | refine hfc1 [3, 95] (mapO [0]) (fun H2 _ h0 => d6v 0 h0) ?_
  | ((with_reducible refine mdH ?_); refine a3n hfk (fun d hd => ?_) rfl (b4j (.r f X.a.toNat) [3, 95] hCT hB (by decide) hy haS hk (by simp [HPXB, fB, a2g, a1t, a2f]) rfl ?_) ?_; (focus (cases hd; exact Nat.le_of_ble_eq_true rfl)); (focus (first | rfl | (simp [ninL, ninO, a3o, nins, nin, a0d, a0g, a0a, a1k, a0c, a0b, a2j, mapO, a2m, a1h, a0v, hdN, *]; done))); (rintro r' H' ⟨rfl, Z2, h2, rfl, hZ2, hT2⟩))
  | ((with_reducible refine lfH ?_); refine a7g (j := 3) (hB _ _ _ _ hy hZ2) rfl ⟨rfl, Z2, h2, rfl, hZ2, hT2.congr (fun z => by simp [a3z, q, alO, inS, gsr, b6o, rdC, wrC])⟩ trivial)
  | with_reducible first | refine a4y ?_ | refine a7f ?_ | refine a3m (id := 1) 9 a1v (by kernel_rfl) fun K hK => ?_ | refine a3m (id := 11) 6 a1v (by kernel_rfl) fun K hK => ?_ | refine stp ?_ | refine stpK ?_; intro K hK | refine stpC ?_; intro T E hT hE | refine stp2 ?_ ?_ <;> intro h | refine a0x rfl ?_ | refine a1a rfl (Nat.le_of_ble_eq_true rfl) a0z ?_ | refine a1a rfl (Nat.le_of_ble_eq_true rfl) (a0y (by simp [HPXB, a2f, fB, ext, upd, *])) ?_ | refine a2i (by decide) (by kernel_rfl) ?_ | refine a1j (by decide) ?_ | refine Kont.go hK ?_; clear hK K | refine KT.go hT ?_; clear hT hE T E | refine KT.go hE ?_; clear hT hE T E
  | simp [*, -List.all_flatten, -List.all_eq_true, DEFM, fB, a2g, a1t, a2f, hdN, a1h, a0v, a2h, a1n, a1b, a1c, a2z, a3a, a3b, anR, a6r, a6q, a3y, a4f, a3u, MG_t, MG_f, rmvs, a0j, a3t, a0f, a3i, a0b, a0d, FnD.row, Ins.row, a9q, a3u, a9z, a9y]
theorem c_f3 {p : Pg} (hp : VOk p) {m : Bool} {fk : FuncId} (hCT : CT p m fk) (hfk : fnOk Tryz.prog fk = true) {B : Heap} {Y : Pts} {g : Bool} {f pc : Nat} (hf : f < p.funcs.length) {X : Ins} (hI : InsOk p p.funcs[f] X) (hy : Shp p Y) (hB : BsM p 3 B) (q : X.op = 3 \/ X.op = 19 \/ X.op = 20) : FCr Tryz.prog Gl 141 [.ptr [81] 8 0 0, .agg [.int .i64 (f : Int), .int .i64 (pc : Int)], .agg X.row, .clo fk [] [.ptr [88] 1 0 0]] (HP [] B (MF p Y g)) (OutT p m B (a3z p f pc X) Y g) := by
 rcases q with q | q | q
 all_goals
  have hsv := a3v hp
  have fB : ∀ r, B (3 :: r) = none := fun r => (hB Y g Y g hy hy).fb 3 r (by decide)
  have y3 := hy.rn
  have y4 := hy.cn
  have hrr := hp.regs (List.getElem_mem hf)
  obtain ⟨y1, y2⟩ := hy.at hf
  obtain ⟨nr, hnr⟩ : ∃ nr : Nat, p.funcs[f].regs = (nr : Int) := ⟨p.funcs[f].regs.toNat, by have := hrr.p0; have := hrr.p1; omega⟩
  rw [hnr, Int.toNat_natCast] at y2
  have hnr64 : nr <= 64 := by have := hrr.r64; omega
  have hIa := hI.a
  have hIb := hI.b
  have hIc := hI.c
  have hi1 : ∀ (L : List (FM.Loc × FO)) (Z : Pts) (h : Bool), inH (HP L B (MF p Z h)) [88] := fun L Z h => a7u
  have hi2 : ∀ (L : List (FM.Loc × FO)) (Z : Pts) (h : Bool), inH (HP L B (MF p Z h)) [81] := fun L Z h => a3s a3y
  have hi3 : ∀ (L : List (FM.Loc × FO)) (Z : Pts) (h : Bool), Shp p Z -> inH (HP L B (MF p Z h)) [83, f] := fun L Z h hZ => a3s (a4f (hZ.at hf).1)
  have ha : isR p.funcs[f] X.a := a4n (r := (rR X.op).1) hIa (by rw [q]; decide)
  obtain ⟨a0, a1⟩ := id ha
  have aN : (X.a).toNat < nr := by omega
  have a2 : X.a < (nr : Int) := by omega
  have haS := hy.rok hf ha
  have hb : isR p.funcs[f] X.b := a4n (r := (rR X.op).2.1) hIb (by rw [q]; decide)
  obtain ⟨b0, b1⟩ := id hb
  have bN : (X.b).toNat < nr := by omega
  have b2 : X.b < (nr : Int) := by omega
  have hbS := hy.rok hf hb
  refine a4b (res := []) 16 210 [27, 63, 62, 183, 192, 191, 190] (fun d ix => 3 :: d :: ix) (fn := Tryz.f141) (by kernel_rfl) (by rfl) (by rfl) (by rfl) (by simp) (by decide) ?_
  repeat' first
   | ((with_reducible refine a1z (id := 24) fun K hK => ?_); refine a1i 3 ?_)
   | ((with_reducible refine a1z (id := 27) fun K hK => ?_); refine a1i 5 ?_)
   | ((with_reducible refine a1z (id := 31) fun K hK => ?_); refine a1i 5 ?_)
   | ((with_reducible refine a1z (id := 33) fun K hK => ?_); refine a1i 6 ?_)
   | ((with_reducible refine a1z (id := 36) fun K hK => ?_); refine a1i 5 ?_)
   | ((with_reducible refine a1z (id := 39) fun K hK => ?_); refine a1i 5 ?_)
   | ((with_reducible refine a1z (id := 41) fun K hK => ?_); refine a1i 5 ?_)
   | ((with_reducible refine a1z (id := 45) fun K hK => ?_); refine a1i 4 ?_)
   | with_reducible first | refine a2b (id := 6) [] 7 a1v (by kernel_rfl) fun K hK => ?_ | refine a2b (id := 12) [] 8 a1v (by kernel_rfl) fun K hK => ?_ | refine a2b (id := 17) [] 16 a1v (by kernel_rfl) fun K hK => ?_ | refine a2b (id := 22) [] 11 a1v (by kernel_rfl) fun K hK => ?_ | refine a2b (id := 55) [] 12 a1v (by kernel_rfl) fun K hK => ?_ | refine a4q ?_
   | ((with_reducible refine mdH ?_); refine a3n hfk (fun d hd => ?_) rfl (b4j (.r f X.a.toNat) (SL.r f X.b.toNat).loc hCT hB (by decide) hy haS (hy.gets _) (a6o hbS) rfl ?_) ?_; (focus (cases hd; exact Nat.le_of_ble_eq_true rfl)); (focus (first | rfl | (simp [ninL, ninO, a3o, nins, nin, a0d, a0g, a0a, a1k, a0c, a0b, a2j, mapO, a2m, a1h, a0v, hdN, *]; done))); (rintro r' H' ⟨rfl, Z2, h2, rfl, hZ2, hT2⟩))
   | ((with_reducible refine lfH ?_); refine a7g (j := 3) (hB _ _ _ _ hy hZ2) rfl ⟨rfl, Z2, h2, rfl, hZ2, g9l hT2 (fun z => by simp [a3z, q, alO, gsr, b6o])⟩ trivial)
   | with_reducible first | refine a4y ?_ | refine a7f ?_ | refine a3m (id := 1) 9 a1v (by kernel_rfl) fun K hK => ?_ | refine a3m (id := 11) 6 a1v (by kernel_rfl) fun K hK => ?_ | refine stp ?_ | refine stpK ?_; intro K hK | refine stpC ?_; intro T E hT hE | refine stp2 ?_ ?_ <;> intro h | refine a0x rfl ?_ | refine a1a rfl (Nat.le_of_ble_eq_true rfl) a0z ?_ | refine a1a rfl (Nat.le_of_ble_eq_true rfl) (a0y (by simp [HPXB, a2f, fB, ext, upd, *])) ?_ | refine a2i (by decide) (by kernel_rfl) ?_ | refine a1j (by decide) ?_ | refine Kont.go hK ?_; clear hK K | refine KT.go hT ?_; clear hT hE T E | refine KT.go hE ?_; clear hT hE T E
   | simp [*, -List.all_flatten, -List.all_eq_true, DEFM, fB, a2g, a1t, a2f, hdN, a1h, a0v, a2h, a1n, a1b, a1c, a2z, a3a, a3b, anR, a6r, a6q, a3y, a4f, a3u, MG_t, MG_f, rmvs, a0j, a3t, a0f, a3i, a0b, a0d, FnD.row, Ins.row, a9q, a3u, a9z, a9y]
theorem c_28 {p : Pg} (hp : VOk p) {m : Bool} {fk : FuncId} (hCT : CT p m fk) (hfk : fnOk Tryz.prog fk = true) {B : Heap} {Y : Pts} {g : Bool} {f pc : Nat} (hf : f < p.funcs.length) {X : Ins} (hI : InsOk p p.funcs[f] X) (hy : Shp p Y) (hB : BsM p 3 B) (q : X.op = 28) : FCr Tryz.prog Gl 141 [.ptr [81] 8 0 0, .agg [.int .i64 (f : Int), .int .i64 (pc : Int)], .agg X.row, .clo fk [] [.ptr [88] 1 0 0]] (HP [] B (MF p Y g)) (OutT p m B (a3z p f pc X) Y g) := by
 have hsv := a3v hp
 have fB : ∀ r, B (3 :: r) = none := fun r => (hB Y g Y g hy hy).fb 3 r (by decide)
 have y3 := hy.rn
 have y4 := hy.cn
 have hrr := hp.regs (List.getElem_mem hf)
 obtain ⟨y1, y2⟩ := hy.at hf
 obtain ⟨nr, hnr⟩ : ∃ nr : Nat, p.funcs[f].regs = (nr : Int) := ⟨p.funcs[f].regs.toNat, by have := hrr.p0; have := hrr.p1; omega⟩
 rw [hnr, Int.toNat_natCast] at y2
 have hnr64 : nr <= 64 := by have := hrr.r64; omega
 have hIa := hI.a
 have hIb := hI.b
 have hIc := hI.c
 have hi1 : ∀ (L : List (FM.Loc × FO)) (Z : Pts) (h : Bool), inH (HP L B (MF p Z h)) [88] := fun L Z h => a7u
 have hi2 : ∀ (L : List (FM.Loc × FO)) (Z : Pts) (h : Bool), inH (HP L B (MF p Z h)) [81] := fun L Z h => a3s a3y
 have hi3 : ∀ (L : List (FM.Loc × FO)) (Z : Pts) (h : Bool), Shp p Z -> inH (HP L B (MF p Z h)) [83, f] := fun L Z h hZ => a3s (a4f (hZ.at hf).1)
 have hbr : opR p p.funcs[f] X 102 X.b = true := by have := hI.b; rw [q] at this; exact this
 obtain ⟨k1, k2, k3, k4⟩ := b0l hp (List.getElem_mem hf) hbr
 obtain ⟨nb, hxb⟩ : ∃ nb : Nat, X.b = (nb : Int) := ⟨X.b.toNat, by omega⟩
 have hnb : nb < p.funcs.length := by omega
 have ha26 : X.op = 26 -> X.a < (nr : Int) := fun e => by have := hI.a; rw [e] at this; have := (b1t this (.inl rfl)).2; omega
 refine a4b (res := []) 16 210 [27, 63, 62, 183, 192, 191, 190] (fun d ix => 3 :: d :: ix) (fn := Tryz.f141) (by kernel_rfl) (by rfl) (by rfl) (by rfl) (by simp) (by decide) ?_
 repeat' first
  | ((with_reducible refine a1z (id := 24) fun K hK => ?_); refine a1i 3 ?_)
  | ((with_reducible refine a1z (id := 27) fun K hK => ?_); refine a1i 5 ?_)
  | ((with_reducible refine a1z (id := 31) fun K hK => ?_); refine a1i 5 ?_)
  | ((with_reducible refine a1z (id := 33) fun K hK => ?_); refine a1i 6 ?_)
  | ((with_reducible refine a1z (id := 36) fun K hK => ?_); refine a1i 5 ?_)
  | ((with_reducible refine a1z (id := 39) fun K hK => ?_); refine a1i 5 ?_)
  | ((with_reducible refine a1z (id := 41) fun K hK => ?_); refine a1i 5 ?_)
  | ((with_reducible refine a1z (id := 45) fun K hK => ?_); refine a1i 4 ?_)
  | with_reducible first | refine a2b (id := 6) [] 7 a1v (by kernel_rfl) fun K hK => ?_ | refine a2b (id := 12) [] 8 a1v (by kernel_rfl) fun K hK => ?_ | refine a2b (id := 17) [] 16 a1v (by kernel_rfl) fun K hK => ?_ | refine a2b (id := 22) [] 11 a1v (by kernel_rfl) fun K hK => ?_ | refine a2b (id := 55) [] 12 a1v (by kernel_rfl) fun K hK => ?_ | refine a4q ?_
  | ((with_reducible refine mdH ?_); refine a3n (by kernel_rfl) (fun d hd => ?_) rfl (c4p hp hCT hfk hf hy hB hnr hI hbr hxb hnb ha26 q ?_ ?_) ?_; (focus (cases hd; exact Nat.le_of_ble_eq_true rfl)); (focus rfl); (focus (first | rfl | (simp [ninL, ninO, a3o, nins, nin, a0d, a0g, a0a, a1k, a0c, a0b, a2j, mapO, a2m, a2h, a1h, a0v, hdN, *]; done))); (rintro r' H' ⟨rfl, Z2, h2, rfl, hZ2, hT2⟩))
  | ((with_reducible refine lfH ?_); refine a7g (j := 3) (hB _ _ _ _ hy hZ2) rfl ⟨rfl, Z2, h2, rfl, hZ2, hT2.congr (b7d hxb hnb (.inr (.inl q)))⟩ trivial)
  | with_reducible first | refine a4y ?_ | refine a7f ?_ | refine a3m (id := 1) 9 a1v (by kernel_rfl) fun K hK => ?_ | refine a3m (id := 11) 6 a1v (by kernel_rfl) fun K hK => ?_ | refine stp ?_ | refine stpK ?_; intro K hK | refine stpC ?_; intro T E hT hE | refine stp2 ?_ ?_ <;> intro h | refine a0x rfl ?_ | refine a1a rfl (Nat.le_of_ble_eq_true rfl) a0z ?_ | refine a1a rfl (Nat.le_of_ble_eq_true rfl) (a0y (by simp [HPXB, a2f, fB, ext, upd, *])) ?_ | refine a2i (by decide) (by kernel_rfl) ?_ | refine a1j (by decide) ?_ | refine Kont.go hK ?_; clear hK K | refine KT.go hT ?_; clear hT hE T E | refine KT.go hE ?_; clear hT hE T E
  | simp [*, -List.all_flatten, -List.all_eq_true, DEFM, fB, a2g, a1t, a2f, hdN, a1h, a0v, a2h, a1n, a1b, a1c, a2z, a3a, a3b, anR, a6r, a6q, a3y, a4f, a3u, MG_t, MG_f, rmvs, a0j, a3t, a0f, a3i, a0b, a0d, FnD.row, Ins.row, a9q, a3u, a9z, a9y]
theorem c_31 {p : Pg} (hp : VOk p) {m : Bool} {fk : FuncId} (hCT : CT p m fk) (hfk : fnOk Tryz.prog fk = true) {B : Heap} {Y : Pts} {g : Bool} {f pc : Nat} (hf : f < p.funcs.length) {X : Ins} (hI : InsOk p p.funcs[f] X) (hy : Shp p Y) (hB : BsM p 3 B) (q : X.op = 31) : FCr Tryz.prog Gl 141 [.ptr [81] 8 0 0, .agg [.int .i64 (f : Int), .int .i64 (pc : Int)], .agg X.row, .clo fk [] [.ptr [88] 1 0 0]] (HP [] B (MF p Y g)) (OutT p m B (a3z p f pc X) Y g) := by
 have hsv := a3v hp
 have fB : ∀ r, B (3 :: r) = none := fun r => (hB Y g Y g hy hy).fb 3 r (by decide)
 have y3 := hy.rn
 have y4 := hy.cn
 have hrr := hp.regs (List.getElem_mem hf)
 obtain ⟨y1, y2⟩ := hy.at hf
 obtain ⟨nr, hnr⟩ : ∃ nr : Nat, p.funcs[f].regs = (nr : Int) := ⟨p.funcs[f].regs.toNat, by have := hrr.p0; have := hrr.p1; omega⟩
 rw [hnr, Int.toNat_natCast] at y2
 have hnr64 : nr <= 64 := by have := hrr.r64; omega
 have hIa := hI.a
 have hIb := hI.b
 have hIc := hI.c
 have hi1 : ∀ (L : List (FM.Loc × FO)) (Z : Pts) (h : Bool), inH (HP L B (MF p Z h)) [88] := fun L Z h => a7u
 have hi2 : ∀ (L : List (FM.Loc × FO)) (Z : Pts) (h : Bool), inH (HP L B (MF p Z h)) [81] := fun L Z h => a3s a3y
 have hi3 : ∀ (L : List (FM.Loc × FO)) (Z : Pts) (h : Bool), Shp p Z -> inH (HP L B (MF p Z h)) [83, f] := fun L Z h hZ => a3s (a4f (hZ.at hf).1)
 have hbr : opR p p.funcs[f] X 102 X.b = true := by have := hI.b; rw [q] at this; exact this
 obtain ⟨k1, k2, k3, k4⟩ := b0l hp (List.getElem_mem hf) hbr
 obtain ⟨nb, hxb⟩ : ∃ nb : Nat, X.b = (nb : Int) := ⟨X.b.toNat, by omega⟩
 have hnb : nb < p.funcs.length := by omega
 have ha26 : X.op = 26 -> X.a < (nr : Int) := fun e => by have := hI.a; rw [e] at this; have := (b1t this (.inl rfl)).2; omega
 refine a4b (res := []) 16 210 [27, 63, 62, 183, 192, 191, 190] (fun d ix => 3 :: d :: ix) (fn := Tryz.f141) (by kernel_rfl) (by rfl) (by rfl) (by rfl) (by simp) (by decide) ?_
 repeat' first
  | ((with_reducible refine a1z (id := 24) fun K hK => ?_); refine a1i 3 ?_)
  | ((with_reducible refine a1z (id := 27) fun K hK => ?_); refine a1i 5 ?_)
  | ((with_reducible refine a1z (id := 31) fun K hK => ?_); refine a1i 5 ?_)
  | ((with_reducible refine a1z (id := 33) fun K hK => ?_); refine a1i 6 ?_)
  | ((with_reducible refine a1z (id := 36) fun K hK => ?_); refine a1i 5 ?_)
  | ((with_reducible refine a1z (id := 39) fun K hK => ?_); refine a1i 5 ?_)
  | ((with_reducible refine a1z (id := 41) fun K hK => ?_); refine a1i 5 ?_)
  | ((with_reducible refine a1z (id := 45) fun K hK => ?_); refine a1i 4 ?_)
  | with_reducible first | refine a2b (id := 6) [] 7 a1v (by kernel_rfl) fun K hK => ?_ | refine a2b (id := 12) [] 8 a1v (by kernel_rfl) fun K hK => ?_ | refine a2b (id := 17) [] 16 a1v (by kernel_rfl) fun K hK => ?_ | refine a2b (id := 22) [] 11 a1v (by kernel_rfl) fun K hK => ?_ | refine a2b (id := 55) [] 12 a1v (by kernel_rfl) fun K hK => ?_ | refine a4q ?_
  | ((with_reducible refine mdH ?_); refine a3n (by kernel_rfl) (fun d hd => ?_) rfl (c4p hp hCT hfk hf hy hB hnr hI hbr hxb hnb ha26 q ?_ ?_) ?_; (focus (cases hd; exact Nat.le_of_ble_eq_true rfl)); (focus rfl); (focus (first | rfl | (simp [ninL, ninO, a3o, nins, nin, a0d, a0g, a0a, a1k, a0c, a0b, a2j, mapO, a2m, a2h, a1h, a0v, hdN, *]; done))); (rintro r' H' ⟨rfl, Z2, h2, rfl, hZ2, hT2⟩))
  | ((with_reducible refine lfH ?_); refine a7g (j := 3) (hB _ _ _ _ hy hZ2) rfl ⟨rfl, Z2, h2, rfl, hZ2, hT2.congr (b7d hxb hnb (.inr (.inr q)))⟩ trivial)
  | with_reducible first | refine a4y ?_ | refine a7f ?_ | refine a3m (id := 1) 9 a1v (by kernel_rfl) fun K hK => ?_ | refine a3m (id := 11) 6 a1v (by kernel_rfl) fun K hK => ?_ | refine stp ?_ | refine stpK ?_; intro K hK | refine stpC ?_; intro T E hT hE | refine stp2 ?_ ?_ <;> intro h | refine a0x rfl ?_ | refine a1a rfl (Nat.le_of_ble_eq_true rfl) a0z ?_ | refine a1a rfl (Nat.le_of_ble_eq_true rfl) (a0y (by simp [HPXB, a2f, fB, ext, upd, *])) ?_ | refine a2i (by decide) (by kernel_rfl) ?_ | refine a1j (by decide) ?_ | refine Kont.go hK ?_; clear hK K | refine KT.go hT ?_; clear hT hE T E | refine KT.go hE ?_; clear hT hE T E
  | simp [*, -List.all_flatten, -List.all_eq_true, DEFM, fB, a2g, a1t, a2f, hdN, a1h, a0v, a2h, a1n, a1b, a1c, a2z, a3a, a3b, anR, a6r, a6q, a3y, a4f, a3u, MG_t, MG_f, rmvs, a0j, a3t, a0f, a3i, a0b, a0d, FnD.row, Ins.row, a9q, a3u, a9z, a9y]
end Go.Je
