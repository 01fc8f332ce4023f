/- Parts of the proof. -/
import Derived.Test.YtfhhgjbcenhdeaaGreatDoorF20
set_option linter.unusedSimpArgs false
set_option linter.unusedVariables false
namespace Go.Je
open Go Go.FM Go.Gv Go.Proofs
set_option maxRecDepth 100000
set_option maxHeartbeats 40000000
theorem e9z {L0 L1 : FM.Loc -> Prop} {j : Nat} {B A : Heap} (h : Bs L0 j B A) (hl : ∀ l, L1 l -> L0 l) : Bs L1 j B A := ⟨h.fb, h.fa, h.clo, fun l hl' => h.lent l (hl l hl')⟩
theorem e0z {p : Pg} {x : Pts} (hx : Shp p x) {o : Int} (h0 : 0 < o) {f j : Nat} (hf : f < p.funcs.length) (hj : j < p.funcs[f].code.length) (h : o.toNat < (a0l p).length) (e : (a0l p)[o.toNat] = ((f : Int), (j : Int))) :
 a5w p x o = if p.funcs[f].code[j].op = 23 then [] else if p.funcs[f].code[j].op = 24 /\ wrR p x o = false then [p.funcs[f].code[j].b] else oneP p.funcs p.funcs.length := by
 have hn : b7o p (x.sites.getD o.toNat (0, 0)) = p.funcs[f].code[j] := by
  rw [hx.sites, gD_, gE_ h, gS_, e]
  simp [b7o, hf, gD_, hj]
 simp only [a5w, h0, if_true, hn]
theorem c6u {p : Pg} {B : Heap} {Y : Pts} {g : Bool} (hy : Shp p Y) (hB : BsM p 2 B) {L : List (FM.Loc × FO)} {r : List Nat} {xs : List (List FV)} {n : Nat} (hN : n = xs.length) (hL : hdN 2 (L.map Prod.fst) = true) (h : updL L B (2 :: r) = some (.cells 3 1 xs)) (hn : nlss xs = true) (hnn : ∀ U : FM.Loc -> Prop, a2u U xs) :
 LFin (HP [] B (MF p Y g)) (fun r1 H1 => r1 = .sl (2 :: r) 1 0 n /\ H1 = HP [(2 :: r, .cells 3 1 xs)] B (MF p Y g)) (HP L B (MF p Y g)) (some [.sl (2 :: r) 1 0 n]) := by
 subst hN
 have hb := (BsM.call (L := [(2 :: r, .cells 3 1 xs)]) 1 hB (by decide) (b := g) hy (by rfl) ⟨hnn _, trivial⟩) Y g Y g hy hy
 refine f7p [(2 :: r, .cells 3 1 xs)] (j := 1) (e9z hb fun l hl => a0k (L := []) hl) (d4v (fun r => (hB Y g Y g hy hy).fb 2 r (by decide)) hL h) ⟨rfl, ?_⟩ ?_
 . rfl
 . exact a0p
theorem c6t {p : Pg} {B : Heap} {Y : Pts} {g : Bool} (hy : Shp p Y) (hB : BsM p 2 B) {r : List Nat} {xs : List (List FV)} {n : Nat} (hN : n = xs.length) {o : Int} (h : FC Tryz.prog Gl 176 [.ptr [81] 8 0 0, .int .i64 o] (HP [] B (MF p Y g)) (.sl (2 :: r) 1 0 n) (HP [(2 :: r, .cells 3 1 xs)] B (MF p Y g))) (hn : nlss xs = true) : FC Tryz.prog Gl 176 [.ptr [81] 8 0 0, .int .i64 o] (HP [] B (MF p Y g)) (.list 1 xs) (HP [] B (MF p Y g)) :=
 (show FC Tryz.prog Gl 176 [.ptr [81] 8 0 0, .int .i64 o] (HP [] B (MF p Y g)) (.sl (2 :: r) 1 0 xs.length) (upd (HP [] B (MF p Y g)) (2 :: r) (.cells 3 1 xs)) by rw [a1d (a1i p Y g 2 r (by decide))]; subst hN; exact h).frozen (a3t.2 ⟨a1i p Y g 2 r (by decide), (hB Y g Y g hy hy).fb 2 r (by decide)⟩) hn (hB Y g Y g hy hy).clo
theorem b2z (l : List Int) (U : FM.Loc -> Prop) : a2u U (ints l) := by
 induction l with
 | nil => trivial
 | cons a l ih => exact ⟨⟨trivial, trivial⟩, ih⟩
theorem c0a {H H1 : Heap} {Φ : FV -> Heap -> Prop} {x : Option (List FV)} (h : LFin H Φ H1 x) : LFin H Φ H1 x := h
theorem b1g {p : Pg} (hp : VOk p) {j : Nat} {B : Heap} {L : List (FM.Loc × FO)} {Y : Pts} {g : Bool} (hy : Shp p Y) (hB : BsM p j B) (h1 : 1 < j) (hl : hdN j (L.map Prod.fst) = true) (hn : ninL (inH (HP L B (MF p Y g))) L) (o : Int) : FC Tryz.prog Gl 202 [.ptr [81] 8 0 0, .int .i64 o] (HP [] (updL L B) (MF p Y g)) (.bool (wrR p Y o)) (HP [] (updL L B) (MF p Y g)) := c9n hp hy (hB.call 1 h1 hy hl hn) o
theorem f0t {p : Pg} (hp : VOk p) {B : Heap} {Y : Pts} {g : Bool} (hy : Shp p Y) (hB : BsM p 2 B) {o : Int} (h0 : ¬ 0 < o) : FC Tryz.prog Gl 176 [.ptr [81] 8 0 0, .int .i64 o] (HP [] B (MF p Y g)) (.sl [2, 1000] 1 0 (oneP p.funcs p.funcs.length).length) (HP [([2, 1000], .cells 3 1 (ints (oneP p.funcs p.funcs.length)))] B (MF p Y g)) := by
 have hsv := a2t hp
 have fB : ∀ r, B (2 :: r) = none := fun r => (hB Y g Y g hy hy).fb 2 r (by decide)
 have y3 := hy.rn
 have hi2 : ∀ (L : List (FM.Loc × FO)), inH (HP L B (MF p Y g)) [81] := fun L => a2n a2z
 refine a5n (res := [.tmp 4]) 10 68 [54, 53, 52] (fun d ix => 2 :: d :: ix) (fn := Tryz.f176) (by kernel_rfl) (by rfl) (by rfl) (by rfl) (by simp) (by decide) ?_
 repeat' first
  | ((with_reducible refine a1a ?_); refine a1q (σ := {i : Nat // i <= p.funcs.length}) (fun y => [(8, .undef), (9, .undef), (7, .sl [2, 1000] 1 0 (oneP p.funcs y.1).length)]) [53, 52] (fun y => [(54, .int .i64 (y.1 : Int))]) [[2, 9]] (fun y => [([2, 1000], .cells 3 1 (ints (oneP p.funcs y.1)))]) (fun y => MF p Y g) (fun y => p.funcs.length - y.1) ⟨0, by simp⟩ (gk3i (j := 2) [] (hB _ _ _ _ hy hy) ?_ ?_ ?_ ?_ ?_ ?_ ?_) ?_; (iterate 7 (focus (first | rfl | (simp [LPXB, *, SIMB, hdN, injB, d3m, fB, a1k, a1d, a1i, hdN, a0p, a0k]; done)))); rintro ⟨i, hi⟩; simp only [lpS, LPXB]; (try dsimp only at hi); rcases a0z hi with hlt | ⟨hlt, rfl⟩; have hnf := hp.nf; have wi := wli hlt (by omega); have hol := b4s p.funcs i; have hs := szn (n := (oneP p.funcs i).length + 1) (k := 8) (by omega) (by decide); have hs2 : (oneP p.funcs i).length + 1 <= 4611686018427387904 := (by omega); by_cases hq : (p.funcs[i]'hlt).params = 1)
  | ((with_reducible refine a0q ?_); refine a1b (⟨i + 1, by omega⟩) (gk3i (j := 2) [] (hB _ _ _ _ hy hy) ?_ ?_ ?_ ?_ ?_ ?_ ?_) ?_; (iterate 7 (focus (have e := b9v hlt hq; first | rfl | (simp [LPXB, *, SIMB, hdN, injB, a2f, fB, a1k, a1d, a1i, hdN, a0p, a0k]; done)))); (focus (dsimp only; omega)))
  | ((with_reducible refine a0q ?_); refine a1b (⟨i + 1, by omega⟩) (gk3i (j := 2) [] (hB _ _ _ _ hy hy) ?_ ?_ ?_ ?_ ?_ ?_ ?_) ?_; (iterate 7 (focus (have e := c3x hlt hq; first | rfl | (simp [LPXB, *, SIMB, hdN, injB, fB, a1k, a1d, a1i, hdN, a0p, a0k]; done)))); (focus (dsimp only; omega)))
  | ((with_reducible refine c0a ?_); refine c6u (g := g) (r := [1000]) (xs := ints (oneP p.funcs p.funcs.length)) hy hB ?_ ?_ ?_ (a0a _) (b2z _); (focus (simp [a0n]; done)); (focus rfl); (focus (simp [a1p, a1v]; done)))
  | with_reducible first | refine a2j (id := 3) 15 a0y (by kernel_rfl) fun K hK => ?_ | refine stp ?_ | refine stpK ?_; intro K hK | refine stpC ?_; intro T E hT hE | refine stp2 ?_ ?_ <;> intro h | refine a0g rfl ?_ | refine a0j rfl (lbR rfl) a0i ?_ | refine a0j rfl (lbR rfl) (a0h (by simp [HPXB, a1i, fB, ext, upd, *])) ?_ | refine a1g (by decide) (by kernel_rfl) ?_ | refine a0o (by decide) ?_ | refine Kont.go hK ?_; clear hK K | refine KT.go hT ?_; clear hT hE T E | refine KT.go hE ?_; clear hT hE T E
  | simp [*, -List.all_flatten, -List.all_eq_true, DEFM, LENB, List.take_length, asR, a3x, a2g, FV.cellV, a2f, b2h, fB, a1k, a1d, a1i, hdN, a0p, a0k, a0u, a0r, a0s, a1y, a1z, a2a, anR, a5y, a5x, a2z, a3j, a2p, MG_t, MG_f, rmvs, a1c, a2o, a0x, a2b, a0b, a0e, FnD.row, Ins.row]
theorem e5j {p : Pg} (hp : VOk p) {B : Heap} {Y : Pts} {g : Bool} (hy : Shp p Y) (hB : BsM p 2 B) {o : Int} (h0 : 0 < o) (h1 : o < ((a0l p).length : Int)) {f j : Nat} (hf : f < p.funcs.length) (hj : j < p.funcs[f].code.length) (hol0 : o.toNat < (a0l p).length) (es : (a0l p)[o.toNat] = ((f : Int), (j : Int))) (q1 : (p.funcs[f]'hf).code[j].op = 23) : FC Tryz.prog Gl 176 [.ptr [81] 8 0 0, .int .i64 o] (HP [] B (MF p Y g)) (.nils) (HP [] B (MF p Y g)) := by
 have hsv := a2t hp
 have fB : ∀ r, B (2 :: r) = none := fun r => (hB Y g Y g hy hy).fb 2 r (by decide)
 have y3 := hy.rn
 have hi2 : ∀ (L : List (FM.Loc × FO)), inH (HP L B (MF p Y g)) [81] := fun L => a2n a2z
 have es1 : ((a0l p)[o.toNat]'hol0).1 = (f : Int) := by rw [es]
 have es2 : ((a0l p)[o.toNat]'hol0).2 = (j : Int) := by rw [es]
 have hge : 0 <= o := by omega
 clear es
 refine a5n (res := [.tmp 4]) 10 68 [54, 53, 52] (fun d ix => 2 :: d :: ix) (fn := Tryz.f176) (by kernel_rfl) (by rfl) (by rfl) (by rfl) (by simp) (by decide) ?_
 repeat' first
  | ((with_reducible refine c2j (j := 2) (hB _ _ _ _ hy hy) ?_ ?_ ?_ ?_); (iterate 2 (focus rfl)); (focus (first | rfl | (simp [*]; done))); focus (first | trivial | (simp [nin, nins, a3n, inH, HPXB]; done)))
  | with_reducible first | refine a2j (id := 3) 15 a0y (by kernel_rfl) fun K hK => ?_ | refine stp ?_ | refine stpK ?_; intro K hK | refine stpC ?_; intro T E hT hE | refine stp2 ?_ ?_ <;> intro h | refine a0g rfl ?_ | refine a0j rfl (lbR rfl) a0i ?_ | refine a0j rfl (lbR rfl) (a0h (by simp [HPXB, a1i, fB, ext, upd, *])) ?_ | refine a1g (by decide) (by kernel_rfl) ?_ | refine a0o (by decide) ?_ | refine Kont.go hK ?_; clear hK K | refine KT.go hT ?_; clear hT hE T E | refine KT.go hE ?_; clear hT hE T E
  | simp [*, -List.all_flatten, -List.all_eq_true, DEFM, LENB, List.take_length, asR, a3x, a2g, FV.cellV, a2f, b2h, fB, a1k, a1d, a1i, hdN, a0p, a0k, a0u, a0r, a0s, a1y, a1z, a2a, anR, a5y, a5x, a2z, a3j, a2p, MG_t, MG_f, rmvs, a1c, a2o, a0x, a2b, a0b, a0e, FnD.row, Ins.row]
theorem e5i {p : Pg} (hp : VOk p) {B : Heap} {Y : Pts} {g : Bool} (hy : Shp p Y) (hB : BsM p 2 B) {o : Int} (h0 : 0 < o) (h1 : o < ((a0l p).length : Int)) {f j : Nat} (hf : f < p.funcs.length) (hj : j < p.funcs[f].code.length) (hol0 : o.toNat < (a0l p).length) (es : (a0l p)[o.toNat] = ((f : Int), (j : Int))) (q1 : (p.funcs[f]'hf).code[j].op = 24) (q2 : wrR p Y o = false) : FC Tryz.prog Gl 176 [.ptr [81] 8 0 0, .int .i64 o] (HP [] B (MF p Y g)) (.sl [2, 47] 1 0 1) (HP [([2, 47], .cells 3 1 ([[.int .i64 (p.funcs[f]'hf).code[j].b]]))] B (MF p Y g)) := by
 have hsv := a2t hp
 have fB : ∀ r, B (2 :: r) = none := fun r => (hB Y g Y g hy hy).fb 2 r (by decide)
 have y3 := hy.rn
 have hi2 : ∀ (L : List (FM.Loc × FO)), inH (HP L B (MF p Y g)) [81] := fun L => a2n a2z
 have es1 : ((a0l p)[o.toNat]'hol0).1 = (f : Int) := by rw [es]
 have es2 : ((a0l p)[o.toNat]'hol0).2 = (j : Int) := by rw [es]
 have hge : 0 <= o := by omega
 clear es
 refine a5n (res := [.tmp 4]) 10 68 [54, 53, 52] (fun d ix => 2 :: d :: ix) (fn := Tryz.f176) (by kernel_rfl) (by rfl) (by rfl) (by rfl) (by simp) (by decide) ?_
 repeat' first
  | ((with_reducible refine cgH ?_); refine a7a rfl (b1g hp hy hB (by decide) ?_ ?_ _) ?_; (focus rfl); (focus (first | rfl | (simp [ninL, ninO, a2u, nins, nin, a0e, a0m, a0c, a0v, a0a, a0b, a1j, mapO, a1o, a0p, a0k, hdN, *]; done))))
  | ((with_reducible refine c0a ?_); refine c6u (g := g) (r := [47]) (xs := [[.int .i64 (p.funcs[f]'hf).code[j].b]]) hy hB ?_ ?_ ?_ (by rfl) (fun _ => ⟨⟨trivial, trivial⟩, trivial⟩); (focus (simp [a0n]; done)); (focus rfl); (focus (simp [a1p, a1v]; done)))
  | with_reducible first | refine a2j (id := 3) 15 a0y (by kernel_rfl) fun K hK => ?_ | refine stp ?_ | refine stpK ?_; intro K hK | refine stpC ?_; intro T E hT hE | refine stp2 ?_ ?_ <;> intro h | refine a0g rfl ?_ | refine a0j rfl (lbR rfl) a0i ?_ | refine a0j rfl (lbR rfl) (a0h (by simp [HPXB, a1i, fB, ext, upd, *])) ?_ | refine a1g (by decide) (by kernel_rfl) ?_ | refine a0o (by decide) ?_ | refine Kont.go hK ?_; clear hK K | refine KT.go hT ?_; clear hT hE T E | refine KT.go hE ?_; clear hT hE T E
  | simp [*, -List.all_flatten, -List.all_eq_true, DEFM, LENB, List.take_length, asR, a3x, a2g, FV.cellV, a2f, b2h, fB, a1k, a1d, a1i, hdN, a0p, a0k, a0u, a0r, a0s, a1y, a1z, a2a, anR, a5y, a5x, a2z, a3j, a2p, MG_t, MG_f, rmvs, a1c, a2o, a0x, a2b, a0b, a0e, FnD.row, Ins.row, ints, List.map]
theorem d8o {p : Pg} (hp : VOk p) {B : Heap} {Y : Pts} {g : Bool} (hy : Shp p Y) (hB : BsM p 2 B) {o : Int} (h0 : 0 < o) (h1 : o < ((a0l p).length : Int)) {f j : Nat} (hf : f < p.funcs.length) (hj : j < p.funcs[f].code.length) (hol0 : o.toNat < (a0l p).length) (es : (a0l p)[o.toNat] = ((f : Int), (j : Int))) (q1 : (p.funcs[f]'hf).code[j].op = 24) (q2 : wrR p Y o = true) : FC Tryz.prog Gl 176 [.ptr [81] 8 0 0, .int .i64 o] (HP [] B (MF p Y g)) (.sl [2, 1000] 1 0 (oneP p.funcs p.funcs.length).length) (HP [([2, 1000], .cells 3 1 (ints (oneP p.funcs p.funcs.length)))] B (MF p Y g)) := by
 have hsv := a2t hp
 have fB : ∀ r, B (2 :: r) = none := fun r => (hB Y g Y g hy hy).fb 2 r (by decide)
 have y3 := hy.rn
 have hi2 : ∀ (L : List (FM.Loc × FO)), inH (HP L B (MF p Y g)) [81] := fun L => a2n a2z
 have es1 : ((a0l p)[o.toNat]'hol0).1 = (f : Int) := by rw [es]
 have es2 : ((a0l p)[o.toNat]'hol0).2 = (j : Int) := by rw [es]
 have hge : 0 <= o := by omega
 clear es
 refine a5n (res := [.tmp 4]) 10 68 [54, 53, 52] (fun d ix => 2 :: d :: ix) (fn := Tryz.f176) (by kernel_rfl) (by rfl) (by rfl) (by rfl) (by simp) (by decide) ?_
 repeat' first
  | ((with_reducible refine a1a ?_); refine a1q (σ := {i : Nat // i <= p.funcs.length}) (fun y => [(8, .undef), (9, .undef), (7, .sl [2, 1000] 1 0 (oneP p.funcs y.1).length)]) [53, 52] (fun y => [(54, .int .i64 (y.1 : Int))]) [[2, 9]] (fun y => [([2, 1000], .cells 3 1 (ints (oneP p.funcs y.1)))]) (fun y => MF p Y g) (fun y => p.funcs.length - y.1) ⟨0, by simp⟩ (gk3i (j := 2) [] (hB _ _ _ _ hy hy) ?_ ?_ ?_ ?_ ?_ ?_ ?_) ?_; (iterate 7 (focus (first | rfl | (simp [LPXB, *, SIMB, hdN, injB, d3m, fB, a1k, a1d, a1i, hdN, a0p, a0k]; done)))); rintro ⟨i, hi⟩; simp only [lpS, LPXB]; (try dsimp only at hi); rcases a0z hi with hlt | ⟨hlt, rfl⟩; have hnf := hp.nf; have wi := wli hlt (by omega); have hol := b4s p.funcs i; have hs := szn (n := (oneP p.funcs i).length + 1) (k := 8) (by omega) (by decide); have hs2 : (oneP p.funcs i).length + 1 <= 4611686018427387904 := (by omega); by_cases hq : (p.funcs[i]'hlt).params = 1)
  | ((with_reducible refine a0q ?_); refine a1b (⟨i + 1, by omega⟩) (gk3i (j := 2) [] (hB _ _ _ _ hy hy) ?_ ?_ ?_ ?_ ?_ ?_ ?_) ?_; (iterate 7 (focus (have e := b9v hlt hq; first | rfl | (simp [LPXB, *, SIMB, hdN, injB, a2f, fB, a1k, a1d, a1i, hdN, a0p, a0k]; done)))); (focus (dsimp only; omega)))
  | ((with_reducible refine a0q ?_); refine a1b (⟨i + 1, by omega⟩) (gk3i (j := 2) [] (hB _ _ _ _ hy hy) ?_ ?_ ?_ ?_ ?_ ?_ ?_) ?_; (iterate 7 (focus (have e := c3x hlt hq; first | rfl | (simp [LPXB, *, SIMB, hdN, injB, fB, a1k, a1d, a1i, hdN, a0p, a0k]; done)))); (focus (dsimp only; omega)))
  | ((with_reducible refine cgH ?_); refine a7a rfl (b1g hp hy hB (by decide) ?_ ?_ _) ?_; (focus rfl); (focus (first | rfl | (simp [ninL, ninO, a2u, nins, nin, a0e, a0m, a0c, a0v, a0a, a0b, a1j, mapO, a1o, a0p, a0k, hdN, *]; done))))
  | ((with_reducible refine c0a ?_); refine c6u (g := g) (r := [1000]) (xs := ints (oneP p.funcs p.funcs.length)) hy hB ?_ ?_ ?_ (a0a _) (b2z _); (focus (simp [a0n]; done)); (focus rfl); (focus (simp [a1p, a1v]; done)))
  | with_reducible first | refine a2j (id := 3) 15 a0y (by kernel_rfl) fun K hK => ?_ | refine stp ?_ | refine stpK ?_; intro K hK | refine stpC ?_; intro T E hT hE | refine stp2 ?_ ?_ <;> intro h | refine a0g rfl ?_ | refine a0j rfl (lbR rfl) a0i ?_ | refine a0j rfl (lbR rfl) (a0h (by simp [HPXB, a1i, fB, ext, upd, *])) ?_ | refine a1g (by decide) (by kernel_rfl) ?_ | refine a0o (by decide) ?_ | refine Kont.go hK ?_; clear hK K | refine KT.go hT ?_; clear hT hE T E | refine KT.go hE ?_; clear hT hE T E
  | simp [*, -List.all_flatten, -List.all_eq_true, DEFM, LENB, List.take_length, asR, a3x, a2g, FV.cellV, a2f, b2h, fB, a1k, a1d, a1i, hdN, a0p, a0k, a0u, a0r, a0s, a1y, a1z, a2a, anR, a5y, a5x, a2z, a3j, a2p, MG_t, MG_f, rmvs, a1c, a2o, a0x, a2b, a0b, a0e, FnD.row, Ins.row]
theorem f0s {p : Pg} (hp : VOk p) {B : Heap} {Y : Pts} {g : Bool} (hy : Shp p Y) (hB : BsM p 2 B) {o : Int} (h0 : 0 < o) (h1 : o < ((a0l p).length : Int)) {f j : Nat} (hf : f < p.funcs.length) (hj : j < p.funcs[f].code.length) (hol0 : o.toNat < (a0l p).length) (es : (a0l p)[o.toNat] = ((f : Int), (j : Int))) (q1 : ¬ (p.funcs[f]'hf).code[j].op = 23) (q2 : ¬ (p.funcs[f]'hf).code[j].op = 24) : FC Tryz.prog Gl 176 [.ptr [81] 8 0 0, .int .i64 o] (HP [] B (MF p Y g)) (.sl [2, 1000] 1 0 (oneP p.funcs p.funcs.length).length) (HP [([2, 1000], .cells 3 1 (ints (oneP p.funcs p.funcs.length)))] B (MF p Y g)) := by
 have hsv := a2t hp
 have fB : ∀ r, B (2 :: r) = none := fun r => (hB Y g Y g hy hy).fb 2 r (by decide)
 have y3 := hy.rn
 have hi2 : ∀ (L : List (FM.Loc × FO)), inH (HP L B (MF p Y g)) [81] := fun L => a2n a2z
 have es1 : ((a0l p)[o.toNat]'hol0).1 = (f : Int) := by rw [es]
 have es2 : ((a0l p)[o.toNat]'hol0).2 = (j : Int) := by rw [es]
 have hge : 0 <= o := by omega
 clear es
 refine a5n (res := [.tmp 4]) 10 68 [54, 53, 52] (fun d ix => 2 :: d :: ix) (fn := Tryz.f176) (by kernel_rfl) (by rfl) (by rfl) (by rfl) (by simp) (by decide) ?_
 repeat' first
  | ((with_reducible refine a1a ?_); refine a1q (σ := {i : Nat // i <= p.funcs.length}) (fun y => [(8, .undef), (9, .undef), (7, .sl [2, 1000] 1 0 (oneP p.funcs y.1).length)]) [53, 52] (fun y => [(54, .int .i64 (y.1 : Int))]) [[2, 9]] (fun y => [([2, 1000], .cells 3 1 (ints (oneP p.funcs y.1)))]) (fun y => MF p Y g) (fun y => p.funcs.length - y.1) ⟨0, by simp⟩ (gk3i (j := 2) [] (hB _ _ _ _ hy hy) ?_ ?_ ?_ ?_ ?_ ?_ ?_) ?_; (iterate 7 (focus (first | rfl | (simp [LPXB, *, SIMB, hdN, injB, d3m, fB, a1k, a1d, a1i, hdN, a0p, a0k]; done)))); rintro ⟨i, hi⟩; simp only [lpS, LPXB]; (try dsimp only at hi); rcases a0z hi with hlt | ⟨hlt, rfl⟩; have hnf := hp.nf; have wi := wli hlt (by omega); have hol := b4s p.funcs i; have hs := szn (n := (oneP p.funcs i).length + 1) (k := 8) (by omega) (by decide); have hs2 : (oneP p.funcs i).length + 1 <= 4611686018427387904 := (by omega); by_cases hq : (p.funcs[i]'hlt).params = 1)
  | ((with_reducible refine a0q ?_); refine a1b (⟨i + 1, by omega⟩) (gk3i (j := 2) [] (hB _ _ _ _ hy hy) ?_ ?_ ?_ ?_ ?_ ?_ ?_) ?_; (iterate 7 (focus (have e := b9v hlt hq; first | rfl | (simp [LPXB, *, SIMB, hdN, injB, a2f, fB, a1k, a1d, a1i, hdN, a0p, a0k]; done)))); (focus (dsimp only; omega)))
  | ((with_reducible refine a0q ?_); refine a1b (⟨i + 1, by omega⟩) (gk3i (j := 2) [] (hB _ _ _ _ hy hy) ?_ ?_ ?_ ?_ ?_ ?_ ?_) ?_; (iterate 7 (focus (have e := c3x hlt hq; first | rfl | (simp [LPXB, *, SIMB, hdN, injB, fB, a1k, a1d, a1i, hdN, a0p, a0k]; done)))); (focus (dsimp only; omega)))
  | ((with_reducible refine cgH ?_); refine a7a rfl (b1g hp hy hB (by decide) ?_ ?_ _) ?_; (focus rfl); (focus (first | rfl | (simp [ninL, ninO, a2u, nins, nin, a0e, a0m, a0c, a0v, a0a, a0b, a1j, mapO, a1o, a0p, a0k, hdN, *]; done))))
  | ((with_reducible refine c0a ?_); refine c6u (g := g) (r := [1000]) (xs := ints (oneP p.funcs p.funcs.length)) hy hB ?_ ?_ ?_ (a0a _) (b2z _); (focus (simp [a0n]; done)); (focus rfl); (focus (simp [a1p, a1v]; done)))
  | with_reducible first | refine a2j (id := 3) 15 a0y (by kernel_rfl) fun K hK => ?_ | refine stp ?_ | refine stpK ?_; intro K hK | refine stpC ?_; intro T E hT hE | refine stp2 ?_ ?_ <;> intro h | refine a0g rfl ?_ | refine a0j rfl (lbR rfl) a0i ?_ | refine a0j rfl (lbR rfl) (a0h (by simp [HPXB, a1i, fB, ext, upd, *])) ?_ | refine a1g (by decide) (by kernel_rfl) ?_ | refine a0o (by decide) ?_ | refine Kont.go hK ?_; clear hK K | refine KT.go hT ?_; clear hT hE T E | refine KT.go hE ?_; clear hT hE T E
  | simp [*, -List.all_flatten, -List.all_eq_true, DEFM, LENB, List.take_length, asR, a3x, a2g, FV.cellV, a2f, b2h, fB, a1k, a1d, a1i, hdN, a0p, a0k, a0u, a0r, a0s, a1y, a1z, a2a, anR, a5y, a5x, a2z, a3j, a2p, MG_t, MG_f, rmvs, a1c, a2o, a0x, a2b, a0b, a0e, FnD.row, Ins.row]
theorem c1n {p : Pg} (hp : VOk p) {B : Heap} {Y : Pts} {g : Bool} (hy : Shp p Y) (hB : BsM p 2 B) {o : Int} (h1 : o < ((a0l p).length : Int)) : FC Tryz.prog Gl 176 [.ptr [81] 8 0 0, .int .i64 o] (HP [] B (MF p Y g)) (.list 1 (ints (a5w p Y o))) (HP [] B (MF p Y g)) := by
 by_cases h0 : 0 < o
 . obtain ⟨hol0, f, hf, j, hj, es⟩ := e5u p h0 h1
   have hfu := e0z hy h0 hf hj hol0 es
   by_cases q1 : p.funcs[f].code[j].op = 23
   . rw [hfu, if_pos q1]
     exact (e5j hp hy hB h0 h1 hf hj hol0 es q1).asR' (.inr ⟨1, rfl⟩)
   . by_cases q2 : p.funcs[f].code[j].op = 24
     . cases q3 : wrR p Y o
       . rw [hfu, if_neg q1, if_pos ⟨q2, q3⟩]
         exact c6t (xs := ints [p.funcs[f].code[j].b]) hy hB (by simp [a0n]) (e5i hp hy hB h0 h1 hf hj hol0 es q2 q3) (a0a _)
       . rw [hfu, if_neg q1, if_neg (by rw [q3]; simp)]
         exact c6t hy hB (by simp [a0n]) (d8o hp hy hB h0 h1 hf hj hol0 es q2 q3) (a0a _)
     . rw [hfu, if_neg q1, if_neg fun h => q2 h.1]
       exact c6t hy hB (by simp [a0n]) (f0s hp hy hB h0 h1 hf hj hol0 es q1 q2) (a0a _)
 . rw [f3n h0]
   exact c6t hy hB (by simp [a0n]) (f0t hp hy hB h0) (a0a _)
theorem e8d (a b : Int) (off : Nat) : ∀ (l : List (Int × Int)) (g : Nat -> Nat) (k : Nat), a8a Tryz.prog 98 (.agg [.int .i64 a, .int .i64 b]) (l.mapIdx fun i s => (FV.agg [.int .i64 s.1, .int .i64 s.2], FV.int .i64 ((i : Int) + (off : Int)), g i)) k = some ((l.findIdx? (fun y => decide (y = (a, b)))).map fun n => (k + n, FV.int .i64 ((n : Int) + (off : Int))))
 | [], _, _ => rfl
 | s :: l, g, k => by
   have ih := e8d a b (off + 1) l (fun i => g (i + 1)) (k + 1)
   rw [List.mapIdx_cons]
   have hk : eqK Tryz.prog 98 (.agg [.int .i64 a, .int .i64 b]) (.agg [.int .i64 s.1, .int .i64 s.2]) = some (decide (s = (a, b))) := by
    obtain ⟨u, v⟩ := s
    by_cases e1 : a = u <;> by_cases e2 : b = v <;> simp [eqK, c0t, c0s, a3q, FV.kd, eqV, e1, e2, Prod.ext_iff, eq_comm]
   simp only [a8a, hk, List.findIdx?_cons]
   by_cases e : s = (a, b)
   . simp [e]
   . simp only [e, decide_false, Bool.false_eq_true, if_false, Option.map_map]
     have e2 : (l.mapIdx fun i s => (FV.agg [.int .i64 s.1, .int .i64 s.2], FV.int .i64 (((i + 1 : Nat) : Int) + (off : Int)), g (i + 1))) = l.mapIdx fun i s => (FV.agg [.int .i64 s.1, .int .i64 s.2], FV.int .i64 ((i : Int) + ((off + 1 : Nat) : Int)), g (i + 1)) := by
      congr 1; funext i s
      have : ((i + 1 : Nat) : Int) + (off : Int) = (i : Int) + ((off + 1 : Nat) : Int) := by omega
      rw [this]
     rw [e2, ih]
     congr 1
     cases l.findIdx? (fun y => decide (y = (a, b))) with
     | none => rfl
     | some n =>
       simp only [Option.map_some, Function.comp, sE_, Prod.mk.injEq]
       refine ⟨by omega, ?_⟩
       have : (n : Int) + ((off + 1 : Nat) : Int) = ((n + 1 : Nat) : Int) + (off : Int) := by omega
       rw [this]
theorem d3y {H : Heap} {l : List (Int × Int)} {c : Nat} (h : H [87] = some (.map (sitE l) c)) (a b : Int) : b2s Tryz.prog H 134 (.mp [87]) (.agg [.int .i64 a, .int .i64 b]) false = some (.int .i64 (objR l (a, b) : Nat)) := by
 have hk : a8q Tryz.prog 98 (.agg [.int .i64 a, .int .i64 b]) = true := by simp [a8q, c0t, c0s]
 have hf := e8d a b 1 (l.drop 1) (fun i => i) 0
 simp only [b2s, c2u, hk, if_true, h]
 unfold sitE
 have e1 : ((1 : Nat) : Int) = 1 := rfl
 rw [e1] at hf
 rw [hf]
 unfold objR
 cases hx : (l.drop 1).findIdx? (fun y => decide (y = (a, b))) with
 | none => simp [d5z]
 | some n => simp
def bxs (p : Pg) (f pc nr : Nat) (X : Ins) (fk : FuncId) : List (FM.Loc × FO) := [([3, 4], .cells 131 1 [[.ptr [81] 8 0 0]]), ([3, 5], .cells 98 2 [[.int .i64 (f : Int), .int .i64 (pc : Int)]]), ([3, 6], .cells 42 5 [X.row]), ([3, 7], .cells 143 1 [[.clo fk [] [.ptr [88] 1 0 0]]]), ([3, 8], .cells 136 1 [[.sl [83, f] 1 0 nr]])]
theorem cl1M {p : Pg} {m : Bool} {fk : FuncId} (hCT : CT p m fk) (hfk : fnOk Tryz.prog fk = true) {B : Heap} {L : List (FM.Loc × FO)} {Y : Pts} {g : Bool} {f : Nat} {hf : f < p.funcs.length} (hy : Shp p Y) (hB : BsM p 3 B) (hl : hdN 3 (L.map Prod.fst) = true) (hn : ninL (inH (HP L B (MF p Y g))) L) {nr : Nat} (hnr : p.funcs[f].regs = (nr : Int)) (hX : BxC (updL L B) f nr fk) {a e : Int} (ha : isR p.funcs[f] a) (he : isR p.funcs[f] e) :
 FCr Tryz.prog Gl 172 [.int .i64 e, .int .i64 a, .ptr [3, 8] 1 0 0, .ptr [3, 7] 1 0 0, .ptr [3, 4] 1 0 0] (HP [] (updL L B) (MF p Y g)) (OutT p m (updL L B) (fun z => ∀ o ∈ getS z (SL.r f a.toNat), rdC f e z o) Y g) := f6e hCT hfk hy (hB.call 2 (by decide) hy hl hn) hnr hX ha he
theorem cl2M {p : Pg} {m : Bool} {fk : FuncId} (hCT : CT p m fk) (hfk : fnOk Tryz.prog fk = true) {B : Heap} {L : List (FM.Loc × FO)} {Y : Pts} {g : Bool} {f : Nat} {hf : f < p.funcs.length} (hy : Shp p Y) (hB : BsM p 3 B) (hl : hdN 3 (L.map Prod.fst) = true) (hn : ninL (inH (HP L B (MF p Y g))) L) {nr : Nat} (hnr : p.funcs[f].regs = (nr : Int)) (hX : BxC (updL L B) f nr fk) {a e : Int} (ha : isR p.funcs[f] a) (he : isR p.funcs[f] e) :
 FCr Tryz.prog Gl 173 [.int .i64 a, .int .i64 e, .ptr [3, 8] 1 0 0, .ptr [3, 7] 1 0 0, .ptr [3, 4] 1 0 0] (HP [] (updL L B) (MF p Y g)) (OutT p m (updL L B) (fun z => ∀ o ∈ getS z (SL.r f a.toNat), wrC f e z o) Y g) := f6d hCT hfk hy (hB.call 2 (by decide) hy hl hn) hnr hX ha he
theorem ok1 {p : Pg} {o : Int} (h0 : 0 <= o) (h1 : o < ((a0l p).length : Int)) : okA (a0l p).length [o] := ⟨by simp, fun q hq => by simp at hq; subst hq; exact ⟨h0, h1⟩⟩
theorem f8i {m : Bool} {C : Pts -> Prop} {Y Z : Pts} {g h : Bool} {to fr : SL} (hT : TR m (inS to (getS Y fr)) (inS to (getS Y fr)) Y g Z h) (hk : ∀ z, C z ↔ subR (getS z to) (getS z fr)) : TR m C C Y g Z h :=
 (TR.id trivial : TR m (fun _ => True) (fun _ => True) Y g Y g).stepk hT fun z => by rw [hk z]; simp
theorem f2m {p : Pg} {B : Heap} {Z : Pts} {h : Bool} (f pc : Nat) (L : List (FM.Loc × FO)) : b2s Tryz.prog (HP L B (MF p Z h)) 134 (.mp [87]) (.agg [.int .i64 (f : Int), .int .i64 (pc : Int)]) false = some (.int .i64 (objR (a0l p) ((f : Int), (pc : Int)) : Nat)) := d3y a8w _ _
theorem f4n {p : Pg} (hp : VOk p) {m : Bool} {fk : FuncId} (hCT : CT p m fk) (hfk : fnOk Tryz.prog fk = true) {B : Heap} {L : List (FM.Loc × FO)} {Y : Pts} {g : Bool} {f : Nat} (hf : f < p.funcs.length) (hy : Shp p Y) (hB : BsM p 3 B) (hl : hdN 3 (L.map Prod.fst) = true) (hn : ninL (inH (HP L B (MF p Y g))) L) {nr nb : Nat} (hnr : p.funcs[f].regs = (nr : Int)) {X : Ins} (hI : InsOk p p.funcs[f] X) (hbr : opR p p.funcs[f] X 102 X.b = true) (hxb : X.b = (nb : Int)) (hnb : nb < p.funcs.length) (ha : X.op = 26 -> X.a < (nr : Int)) :
 FCr Tryz.prog Gl 175 [.ptr [81] 8 0 0, .agg X.row, .sl [83, f] 1 0 nr, .clo fk [] [.ptr [88] 1 0 0]] (HP [] (updL L B) (MF p Y g)) (OutT p m (updL L B) (b7b f X nb p.funcs[nb].params.toNat p.funcs[nb].code) Y g) := by
 have hB' := hB.call 2 (by decide) hy hl hn
 have hrr := hp.regs (gm_ hnb)
 have hfr := hp.regs (gm_ hf)
 obtain ⟨k1, k2, k3, k4⟩ := b0c hp (gm_ hf) hbr
 have hfa : fnAt p X.b = p.funcs[nb] := by unfold fnAt; rw [hxb, tN_, gD_, gE_ hnb, gS_]
 rw [hfa] at k4
 have p0 := hrr.p0
 have p1 := hrr.p1
 have r64 := hrr.r64
 have f64 := hfr.r64
 obtain ⟨np, hnp⟩ : ∃ np : Nat, p.funcs[nb].params = (np : Int) := ⟨p.funcs[nb].params.toNat, by omega⟩
 obtain ⟨nr2, hnr2⟩ : ∃ nr2 : Nat, p.funcs[nb].regs = (nr2 : Int) := ⟨p.funcs[nb].regs.toNat, by omega⟩
 rw [hnp, tN_]
 have e1 : np <= nr2 := by omega
 have e2 : nr2 <= 64 := by omega
 have e3 : nr <= 64 := by omega
 have e4 : X.c + np <= nr := by omega
 by_cases q1 : X.op = 26
 . by_cases q2 : X.a < 0
   . exact d8p hCT hfk hf hy hB' hnr hxb hnb hnr2 hnp e1 e2 e3 k3 e4 q1 q2
   . exact e5k hCT hfk hf hy hB' hnr hxb hnb hnr2 hnp e1 e2 e3 k3 e4 q1 q2 (ha q1) hrr.c1000 fun n hn h30 => by
      have := (hp.ins _ (gm_ hnb) n hn).a
      rw [h30] at this
      have := (b1m (r := 82) this (.inr rfl)).2
      omega
 . exact d8q hCT hfk hf hy hB' hnr hxb hnb hnr2 hnp e1 e2 e3 k3 e4 q1
theorem c4h {p : Pg} (hp : VOk p) {B : Heap} {L : List (FM.Loc × FO)} {Y : Pts} {g : Bool} (hy : Shp p Y) (hB : BsM p 3 B) (hl : hdN 3 (L.map Prod.fst) = true) (hn : ninL (inH (HP L B (MF p Y g))) L) {o : Int} (h1 : o < ((a0l p).length : Int)) : FC Tryz.prog Gl 176 [.ptr [81] 8 0 0, .int .i64 o] (HP [] (updL L B) (MF p Y g)) (.list 1 (ints (a5w p Y o))) (HP [] (updL L B) (MF p Y g)) := c1n hp hy (hB.call 2 (by decide) hy hl hn) h1
theorem a1m {l k : FM.Loc} {o : FO} {L : List (FM.Loc × FO)} {B A : Heap} : inH (HP ((k, o) :: L) B A) l = (l = k \/ inH (HP L B A) l) := by
 refine propext ⟨fun h => ?_, fun h => ?_⟩
 . by_cases e : l = k
   . exact .inl e
   . refine .inr fun h' => h ?_
     obtain ⟨h1, h2⟩ := a3t.1 h'
     exact a3t.2 ⟨h1, by simpa [updL, upd, e] using h2⟩
 . rcases h with rfl | h
   . exact a0p
   . exact a0k h
theorem gs0 {z : Pts} {f : Nat} : getS z (.r f 0) = rg z f 0 := rfl
theorem gsr {z : Pts} {f : Nat} {a : Int} : getS z (.r f a.toNat) = rg z f a := a6p z f a
theorem c4z {p : Pg} (hp : VOk p) {m : Bool} {fk : FuncId} (hCT : CT p m fk) (hfk : fnOk Tryz.prog fk = true) {B : Heap} {L : List (FM.Loc × FO)} {Y : Pts} {g : Bool} {f : Nat} (hf : f < p.funcs.length) (hy : Shp p Y) (hB : BsM p 3 B) {nr nb : Nat} (hnr : p.funcs[f].regs = (nr : Int)) {X : Ins} (hI : InsOk p p.funcs[f] X) (hbr : opR p p.funcs[f] X 102 X.b = true) (hxb : X.b = (nb : Int)) (hnb : nb < p.funcs.length) (ha : X.op = 26 -> X.a < (nr : Int)) {v : Int} (hop : X.op = v) (hl : hdN 3 (L.map Prod.fst) = true) (hn : ninL (inH (HP L B (MF p Y g))) L) :
 FCr Tryz.prog Gl 175 [.ptr [81] 8 0 0, .agg [.int .i64 v, .int .i64 X.a, .int .i64 (nb : Int), .int .i64 X.c, .int .i64 X.d], .sl [83, f] 1 0 nr, .clo fk [] [.ptr [88] 1 0 0]] (HP [] (updL L B) (MF p Y g)) (OutT p m (updL L B) (b7b f X nb p.funcs[nb].params.toNat p.funcs[nb].code) Y g) := by
 have h := f4n hp hCT hfk hf hy hB hl hn hnr hI hbr hxb hnb ha
 subst hop
 rw [<- hxb]; exact h
theorem b7a {p : Pg} {f pc nb : Nat} {X : Ins} (hxb : X.b = (nb : Int)) (hnb : nb < p.funcs.length) (q : X.op = 26 \/ X.op = 28 \/ X.op = 31) (z : Pts) : a3h p f pc X z ↔ b7b f X nb p.funcs[nb].params.toNat p.funcs[nb].code z := by
 have hfa : fnAt p X.b = p.funcs[nb] := by unfold fnAt; rw [hxb, tN_, gD_, gE_ hnb, gS_]
 have hN : X.b.toNat = nb := by rw [hxb, tN_]
 have key : a3h p f pc X z ↔ (∀ i : Nat, i < (fnAt p X.b).params.toNat -> subR (rg z X.b.toNat i) (rg z f (X.c + i))) /\ (X.op = 26 /\ 0 <= X.a -> ∀ m ∈ (fnAt p X.b).code, m.op = 30 /\ 0 <= m.a -> subR (rg z f X.a) (rg z X.b.toNat m.a)) := by
  rcases q with q | q | q <;> simp [a3h, q, alO]
 rw [key, hfa, hN]
 unfold b7b prC rtC
 refine and_congr Iff.rfl ⟨fun h h0 j hj _ hc => h h0 _ (gm_ hj) hc, fun h h0 m hm hc => ?_⟩
 obtain ⟨j, hj, rfl⟩ := List.getElem_of_mem hm
 exact h h0 j hj hj hc
theorem c_26 {p : Pg} (hp : VOk p) {m : Bool} {fk : FuncId} (hCT : CT p m fk) (hfk : fnOk Tryz.prog fk = true) {B : Heap} {Y : Pts} {g : Bool} {f pc : Nat} (hf : f < p.funcs.length) {X : Ins} (hI : InsOk p p.funcs[f] X) (hy : Shp p Y) (hB : BsM p 3 B) (q : X.op = 26) : FCr Tryz.prog Gl 141 [.ptr [81] 8 0 0, .agg [.int .i64 (f : Int), .int .i64 (pc : Int)], .agg X.row, .clo fk [] [.ptr [88] 1 0 0]] (HP [] B (MF p Y g)) (OutT p m B (a3h p f pc X) Y g) := by
 have hsv := a2t hp
 have fB : ∀ r, B (3 :: r) = none := fun r => (hB Y g Y g hy hy).fb 3 r (by decide)
 have y3 := hy.rn
 have y4 := hy.cn
 have hrr := hp.regs (gm_ hf)
 obtain ⟨y1, y2⟩ := hy.at hf
 obtain ⟨nr, hnr⟩ : ∃ nr : Nat, p.funcs[f].regs = (nr : Int) := ⟨p.funcs[f].regs.toNat, by have := hrr.p0; have := hrr.p1; omega⟩
 rw [hnr, tN_] at y2
 have hnr64 : nr <= 64 := by have := hrr.r64; omega
 have hIa := hI.a
 have hIb := hI.b
 have hIc := hI.c
 have hi1 : ∀ (L : List (FM.Loc × FO)) (Z : Pts) (h : Bool), inH (HP L B (MF p Z h)) [88] := fun L Z h => a6w
 have hi2 : ∀ (L : List (FM.Loc × FO)) (Z : Pts) (h : Bool), inH (HP L B (MF p Z h)) [81] := fun L Z h => a2n a2z
 have hi3 : ∀ (L : List (FM.Loc × FO)) (Z : Pts) (h : Bool), Shp p Z -> inH (HP L B (MF p Z h)) [83, f] := fun L Z h hZ => a2n (a3j (hZ.at hf).1)
 have hbr : opR p p.funcs[f] X 102 X.b = true := by have := hI.b; rw [q] at this; exact this
 obtain ⟨k1, k2, k3, k4⟩ := b0c hp (gm_ hf) hbr
 obtain ⟨nb, hxb⟩ : ∃ nb : Nat, X.b = (nb : Int) := ⟨X.b.toNat, by omega⟩
 have hnb : nb < p.funcs.length := by omega
 have ha26 : X.op = 26 -> X.a < (nr : Int) := fun e => by have := hI.a; rw [e] at this; have := (b1m this (.inl rfl)).2; omega
 refine a3d (res := []) 16 210 [27, 63, 62, 183, 192, 191, 190] (fun d ix => 3 :: d :: ix) (fn := Tryz.f141) (by kernel_rfl) (by rfl) (by rfl) (by rfl) (by simp) (by decide) ?_
 repeat' first
  | ((with_reducible refine a1f (id := 24) fun K hK => ?_); refine a0t 3 ?_)
  | ((with_reducible refine a1f (id := 27) fun K hK => ?_); refine a0t 5 ?_)
  | ((with_reducible refine a1f (id := 31) fun K hK => ?_); refine a0t 5 ?_)
  | ((with_reducible refine a1f (id := 33) fun K hK => ?_); refine a0t 6 ?_)
  | ((with_reducible refine a1f (id := 36) fun K hK => ?_); refine a0t 5 ?_)
  | ((with_reducible refine a1f (id := 39) fun K hK => ?_); refine a0t 5 ?_)
  | ((with_reducible refine a1f (id := 41) fun K hK => ?_); refine a0t 5 ?_)
  | ((with_reducible refine a1f (id := 45) fun K hK => ?_); refine a0t 4 ?_)
  | with_reducible first | refine a1h (id := 6) [] 7 a0y (by kernel_rfl) fun K hK => ?_ | refine a1h (id := 12) [] 8 a0y (by kernel_rfl) fun K hK => ?_ | refine a1h (id := 17) [] 16 a0y (by kernel_rfl) fun K hK => ?_ | refine a1h (id := 22) [] 11 a0y (by kernel_rfl) fun K hK => ?_ | refine a1h (id := 55) [] 12 a0y (by kernel_rfl) fun K hK => ?_ | refine a3r ?_
  | ((with_reducible refine mdH ?_); refine a2l (by kernel_rfl) (fun d hd => ?_) rfl (c4z hp hCT hfk hf hy hB hnr hI hbr hxb hnb ha26 q ?_ ?_) ?_; (focus (cases hd; exact lbR rfl)); (focus rfl); (focus (first | rfl | (simp [ninL, ninO, a2u, nins, nin, a0e, a0m, a0c, a0v, a0a, a0b, a1j, mapO, a1o, a1m, a0p, a0k, hdN, *]; done))); (rintro r' H' ⟨rfl, Z2, h2, rfl, hZ2, hT2⟩))
  | ((with_reducible refine lfH ?_); refine a6j (j := 3) (hB _ _ _ _ hy hZ2) rfl ⟨rfl, Z2, h2, rfl, hZ2, hT2.congr (b7a hxb hnb (.inl q))⟩ trivial)
  | with_reducible first | refine a4e ?_ | refine a6g ?_ | refine a2j (id := 1) 9 a0y (by kernel_rfl) fun K hK => ?_ | refine a2j (id := 11) 6 a0y (by kernel_rfl) fun K hK => ?_ | refine stp ?_ | refine stpK ?_; intro K hK | refine stpC ?_; intro T E hT hE | refine stp2 ?_ ?_ <;> intro h | refine a0g rfl ?_ | refine a0j rfl (lbR rfl) a0i ?_ | refine a0j rfl (lbR rfl) (a0h (by simp [HPXB, a1i, fB, ext, upd, *])) ?_ | refine a1g (by decide) (by kernel_rfl) ?_ | refine a0o (by decide) ?_ | refine Kont.go hK ?_; clear hK K | refine KT.go hT ?_; clear hT hE T E | refine KT.go hE ?_; clear hT hE T E
  | simp [*, -List.all_flatten, -List.all_eq_true, DEFM, fB, a1k, a1d, a1i, hdN, a0p, a0k, a1m, a0u, a0r, a0s, a1y, a1z, a2a, anR, a5y, a5x, a2z, a3j, a2p, MG_t, MG_f, rmvs, a1c, a2o, a0x, a2b, a0b, a0e, FnD.row, Ins.row, a8w, a2p, a9i, a9h]
theorem c_18 {p : Pg} (hp : VOk p) {m : Bool} {fk : FuncId} (hCT : CT p m fk) (hfk : fnOk Tryz.prog fk = true) {B : Heap} {Y : Pts} {g : Bool} {f pc : Nat} (hf : f < p.funcs.length) {X : Ins} (hI : InsOk p p.funcs[f] X) (hy : Shp p Y) (hB : BsM p 3 B) (q : X.op = 18) : FCr Tryz.prog Gl 141 [.ptr [81] 8 0 0, .agg [.int .i64 (f : Int), .int .i64 (pc : Int)], .agg X.row, .clo fk [] [.ptr [88] 1 0 0]] (HP [] B (MF p Y g)) (OutT p m B (a3h p f pc X) Y g) := by
 have hsv := a2t hp
 have fB : ∀ r, B (3 :: r) = none := fun r => (hB Y g Y g hy hy).fb 3 r (by decide)
 have y3 := hy.rn
 have y4 := hy.cn
 have hrr := hp.regs (gm_ hf)
 obtain ⟨y1, y2⟩ := hy.at hf
 obtain ⟨nr, hnr⟩ : ∃ nr : Nat, p.funcs[f].regs = (nr : Int) := ⟨p.funcs[f].regs.toNat, by have := hrr.p0; have := hrr.p1; omega⟩
 rw [hnr, tN_] at y2
 have hnr64 : nr <= 64 := by have := hrr.r64; omega
 have hIa := hI.a
 have hIb := hI.b
 have hIc := hI.c
 have hi1 : ∀ (L : List (FM.Loc × FO)) (Z : Pts) (h : Bool), inH (HP L B (MF p Z h)) [88] := fun L Z h => a6w
 have hi2 : ∀ (L : List (FM.Loc × FO)) (Z : Pts) (h : Bool), inH (HP L B (MF p Z h)) [81] := fun L Z h => a2n a2z
 have hi3 : ∀ (L : List (FM.Loc × FO)) (Z : Pts) (h : Bool), Shp p Z -> inH (HP L B (MF p Z h)) [83, f] := fun L Z h hZ => a2n (a3j (hZ.at hf).1)
 have ha : isR p.funcs[f] X.a := a3o (r := (rR X.op).1) hIa (by rw [q]; decide)
 obtain ⟨a0, a1⟩ := id ha
 have aN : (X.a).toNat < nr := by omega
 have a2 : X.a < (nr : Int) := by omega
 have haS := hy.rok hf ha
 have hk : okA (a0l p).length [0] := ok1 (by omega) (by have := a9o p; omega)
 refine a3d (res := []) 16 210 [27, 63, 62, 183, 192, 191, 190] (fun d ix => 3 :: d :: ix) (fn := Tryz.f141) (by kernel_rfl) (by rfl) (by rfl) (by rfl) (by simp) (by decide) ?_
 repeat' first
  | ((with_reducible refine a1f (id := 24) fun K hK => ?_); refine a0t 3 ?_)
  | ((with_reducible refine a1f (id := 27) fun K hK => ?_); refine a0t 5 ?_)
  | ((with_reducible refine a1f (id := 31) fun K hK => ?_); refine a0t 5 ?_)
  | ((with_reducible refine a1f (id := 33) fun K hK => ?_); refine a0t 6 ?_)
  | ((with_reducible refine a1f (id := 36) fun K hK => ?_); refine a0t 5 ?_)
  | ((with_reducible refine a1f (id := 39) fun K hK => ?_); refine a0t 5 ?_)
  | ((with_reducible refine a1f (id := 41) fun K hK => ?_); refine a0t 5 ?_)
  | ((with_reducible refine a1f (id := 45) fun K hK => ?_); refine a0t 4 ?_)
  | with_reducible first | refine a1h (id := 6) [] 7 a0y (by kernel_rfl) fun K hK => ?_ | refine a1h (id := 12) [] 8 a0y (by kernel_rfl) fun K hK => ?_ | refine a1h (id := 17) [] 16 a0y (by kernel_rfl) fun K hK => ?_ | refine a1h (id := 22) [] 11 a0y (by kernel_rfl) fun K hK => ?_ | refine a1h (id := 55) [] 12 a0y (by kernel_rfl) fun K hK => ?_ | refine a3r ?_ | refine hfc1 [3, 95] (mapO [0]) (fun H2 _ h0 => d8n 0 h0) ?_
  | ((with_reducible refine mdH ?_); refine a2l hfk (fun d hd => ?_) rfl (b4g (.r f X.a.toNat) [3, 95] hCT hB (by decide) hy haS hk (by simp [HPXB, fB, a1k, a1d, a1i]) rfl ?_) ?_; (focus (cases hd; exact lbR rfl)); (focus (first | rfl | (simp [ninL, ninO, a2u, nins, nin, a0e, a0m, a0c, a0v, a0a, a0b, a1j, mapO, a1o, a0p, a0k, hdN, *]; done))); (rintro r' H' ⟨rfl, Z2, h2, rfl, hZ2, hT2⟩))
  | ((with_reducible refine lfH ?_); refine a6j (j := 3) (hB _ _ _ _ hy hZ2) rfl ⟨rfl, Z2, h2, rfl, hZ2, hT2.congr (fun z => by simp [a3h, q, alO, inS, gsr, b6k, rdC, wrC])⟩ trivial)
  | with_reducible first | refine a4e ?_ | refine a6g ?_ | refine a2j (id := 1) 9 a0y (by kernel_rfl) fun K hK => ?_ | refine a2j (id := 11) 6 a0y (by kernel_rfl) fun K hK => ?_ | refine stp ?_ | refine stpK ?_; intro K hK | refine stpC ?_; intro T E hT hE | refine stp2 ?_ ?_ <;> intro h | refine a0g rfl ?_ | refine a0j rfl (lbR rfl) a0i ?_ | refine a0j rfl (lbR rfl) (a0h (by simp [HPXB, a1i, fB, ext, upd, *])) ?_ | refine a1g (by decide) (by kernel_rfl) ?_ | refine a0o (by decide) ?_ | refine Kont.go hK ?_; clear hK K | refine KT.go hT ?_; clear hT hE T E | refine KT.go hE ?_; clear hT hE T E
  | simp [*, -List.all_flatten, -List.all_eq_true, DEFM, fB, a1k, a1d, a1i, hdN, a0p, a0k, a1m, a0u, a0r, a0s, a1y, a1z, a2a, anR, a5y, a5x, a2z, a3j, a2p, MG_t, MG_f, rmvs, a1c, a2o, a0x, a2b, a0b, a0e, FnD.row, Ins.row, a8w, a2p, a9i, a9h]
theorem c_f3 {p : Pg} (hp : VOk p) {m : Bool} {fk : FuncId} (hCT : CT p m fk) (hfk : fnOk Tryz.prog fk = true) {B : Heap} {Y : Pts} {g : Bool} {f pc : Nat} (hf : f < p.funcs.length) {X : Ins} (hI : InsOk p p.funcs[f] X) (hy : Shp p Y) (hB : BsM p 3 B) (q : X.op = 3 \/ X.op = 19 \/ X.op = 20) : FCr Tryz.prog Gl 141 [.ptr [81] 8 0 0, .agg [.int .i64 (f : Int), .int .i64 (pc : Int)], .agg X.row, .clo fk [] [.ptr [88] 1 0 0]] (HP [] B (MF p Y g)) (OutT p m B (a3h p f pc X) Y g) := by
 rcases q with q | q | q
 all_goals
  have hsv := a2t hp
  have fB : ∀ r, B (3 :: r) = none := fun r => (hB Y g Y g hy hy).fb 3 r (by decide)
  have y3 := hy.rn
  have y4 := hy.cn
  have hrr := hp.regs (gm_ hf)
  obtain ⟨y1, y2⟩ := hy.at hf
  obtain ⟨nr, hnr⟩ : ∃ nr : Nat, p.funcs[f].regs = (nr : Int) := ⟨p.funcs[f].regs.toNat, by have := hrr.p0; have := hrr.p1; omega⟩
  rw [hnr, tN_] at y2
  have hnr64 : nr <= 64 := by have := hrr.r64; omega
  have hIa := hI.a
  have hIb := hI.b
  have hIc := hI.c
  have hi1 : ∀ (L : List (FM.Loc × FO)) (Z : Pts) (h : Bool), inH (HP L B (MF p Z h)) [88] := fun L Z h => a6w
  have hi2 : ∀ (L : List (FM.Loc × FO)) (Z : Pts) (h : Bool), inH (HP L B (MF p Z h)) [81] := fun L Z h => a2n a2z
  have hi3 : ∀ (L : List (FM.Loc × FO)) (Z : Pts) (h : Bool), Shp p Z -> inH (HP L B (MF p Z h)) [83, f] := fun L Z h hZ => a2n (a3j (hZ.at hf).1)
  have ha : isR p.funcs[f] X.a := a3o (r := (rR X.op).1) hIa (by rw [q]; decide)
  obtain ⟨a0, a1⟩ := id ha
  have aN : (X.a).toNat < nr := by omega
  have a2 : X.a < (nr : Int) := by omega
  have haS := hy.rok hf ha
  have hb : isR p.funcs[f] X.b := a3o (r := (rR X.op).2.1) hIb (by rw [q]; decide)
  obtain ⟨b0, b1⟩ := id hb
  have bN : (X.b).toNat < nr := by omega
  have b2 : X.b < (nr : Int) := by omega
  have hbS := hy.rok hf hb
  refine a3d (res := []) 16 210 [27, 63, 62, 183, 192, 191, 190] (fun d ix => 3 :: d :: ix) (fn := Tryz.f141) (by kernel_rfl) (by rfl) (by rfl) (by rfl) (by simp) (by decide) ?_
  repeat' first
   | ((with_reducible refine a1f (id := 24) fun K hK => ?_); refine a0t 3 ?_)
   | ((with_reducible refine a1f (id := 27) fun K hK => ?_); refine a0t 5 ?_)
   | ((with_reducible refine a1f (id := 31) fun K hK => ?_); refine a0t 5 ?_)
   | ((with_reducible refine a1f (id := 33) fun K hK => ?_); refine a0t 6 ?_)
   | ((with_reducible refine a1f (id := 36) fun K hK => ?_); refine a0t 5 ?_)
   | ((with_reducible refine a1f (id := 39) fun K hK => ?_); refine a0t 5 ?_)
   | ((with_reducible refine a1f (id := 41) fun K hK => ?_); refine a0t 5 ?_)
   | ((with_reducible refine a1f (id := 45) fun K hK => ?_); refine a0t 4 ?_)
   | with_reducible first | refine a1h (id := 6) [] 7 a0y (by kernel_rfl) fun K hK => ?_ | refine a1h (id := 12) [] 8 a0y (by kernel_rfl) fun K hK => ?_ | refine a1h (id := 17) [] 16 a0y (by kernel_rfl) fun K hK => ?_ | refine a1h (id := 22) [] 11 a0y (by kernel_rfl) fun K hK => ?_ | refine a1h (id := 55) [] 12 a0y (by kernel_rfl) fun K hK => ?_ | refine a3r ?_
   | ((with_reducible refine mdH ?_); refine a2l hfk (fun d hd => ?_) rfl (b4g (.r f X.a.toNat) (SL.r f X.b.toNat).loc hCT hB (by decide) hy haS (hy.gets _) (a5u hbS) rfl ?_) ?_; (focus (cases hd; exact lbR rfl)); (focus (first | rfl | (simp [ninL, ninO, a2u, nins, nin, a0e, a0m, a0c, a0v, a0a, a0b, a1j, mapO, a1o, a0p, a0k, hdN, *]; done))); (rintro r' H' ⟨rfl, Z2, h2, rfl, hZ2, hT2⟩))
   | ((with_reducible refine lfH ?_); refine a6j (j := 3) (hB _ _ _ _ hy hZ2) rfl ⟨rfl, Z2, h2, rfl, hZ2, f8i hT2 (fun z => by simp [a3h, q, alO, gsr, b6k])⟩ trivial)
   | with_reducible first | refine a4e ?_ | refine a6g ?_ | refine a2j (id := 1) 9 a0y (by kernel_rfl) fun K hK => ?_ | refine a2j (id := 11) 6 a0y (by kernel_rfl) fun K hK => ?_ | refine stp ?_ | refine stpK ?_; intro K hK | refine stpC ?_; intro T E hT hE | refine stp2 ?_ ?_ <;> intro h | refine a0g rfl ?_ | refine a0j rfl (lbR rfl) a0i ?_ | refine a0j rfl (lbR rfl) (a0h (by simp [HPXB, a1i, fB, ext, upd, *])) ?_ | refine a1g (by decide) (by kernel_rfl) ?_ | refine a0o (by decide) ?_ | refine Kont.go hK ?_; clear hK K | refine KT.go hT ?_; clear hT hE T E | refine KT.go hE ?_; clear hT hE T E
   | simp [*, -List.all_flatten, -List.all_eq_true, DEFM, fB, a1k, a1d, a1i, hdN, a0p, a0k, a1m, a0u, a0r, a0s, a1y, a1z, a2a, anR, a5y, a5x, a2z, a3j, a2p, MG_t, MG_f, rmvs, a1c, a2o, a0x, a2b, a0b, a0e, FnD.row, Ins.row, a8w, a2p, a9i, a9h]
theorem c_28 {p : Pg} (hp : VOk p) {m : Bool} {fk : FuncId} (hCT : CT p m fk) (hfk : fnOk Tryz.prog fk = true) {B : Heap} {Y : Pts} {g : Bool} {f pc : Nat} (hf : f < p.funcs.length) {X : Ins} (hI : InsOk p p.funcs[f] X) (hy : Shp p Y) (hB : BsM p 3 B) (q : X.op = 28) : FCr Tryz.prog Gl 141 [.ptr [81] 8 0 0, .agg [.int .i64 (f : Int), .int .i64 (pc : Int)], .agg X.row, .clo fk [] [.ptr [88] 1 0 0]] (HP [] B (MF p Y g)) (OutT p m B (a3h p f pc X) Y g) := by
 have hsv := a2t hp
 have fB : ∀ r, B (3 :: r) = none := fun r => (hB Y g Y g hy hy).fb 3 r (by decide)
 have y3 := hy.rn
 have y4 := hy.cn
 have hrr := hp.regs (gm_ hf)
 obtain ⟨y1, y2⟩ := hy.at hf
 obtain ⟨nr, hnr⟩ : ∃ nr : Nat, p.funcs[f].regs = (nr : Int) := ⟨p.funcs[f].regs.toNat, by have := hrr.p0; have := hrr.p1; omega⟩
 rw [hnr, tN_] at y2
 have hnr64 : nr <= 64 := by have := hrr.r64; omega
 have hIa := hI.a
 have hIb := hI.b
 have hIc := hI.c
 have hi1 : ∀ (L : List (FM.Loc × FO)) (Z : Pts) (h : Bool), inH (HP L B (MF p Z h)) [88] := fun L Z h => a6w
 have hi2 : ∀ (L : List (FM.Loc × FO)) (Z : Pts) (h : Bool), inH (HP L B (MF p Z h)) [81] := fun L Z h => a2n a2z
 have hi3 : ∀ (L : List (FM.Loc × FO)) (Z : Pts) (h : Bool), Shp p Z -> inH (HP L B (MF p Z h)) [83, f] := fun L Z h hZ => a2n (a3j (hZ.at hf).1)
 have hbr : opR p p.funcs[f] X 102 X.b = true := by have := hI.b; rw [q] at this; exact this
 obtain ⟨k1, k2, k3, k4⟩ := b0c hp (gm_ hf) hbr
 obtain ⟨nb, hxb⟩ : ∃ nb : Nat, X.b = (nb : Int) := ⟨X.b.toNat, by omega⟩
 have hnb : nb < p.funcs.length := by omega
 have ha26 : X.op = 26 -> X.a < (nr : Int) := fun e => by have := hI.a; rw [e] at this; have := (b1m this (.inl rfl)).2; omega
 refine a3d (res := []) 16 210 [27, 63, 62, 183, 192, 191, 190] (fun d ix => 3 :: d :: ix) (fn := Tryz.f141) (by kernel_rfl) (by rfl) (by rfl) (by rfl) (by simp) (by decide) ?_
 repeat' first
  | ((with_reducible refine a1f (id := 24) fun K hK => ?_); refine a0t 3 ?_)
  | ((with_reducible refine a1f (id := 27) fun K hK => ?_); refine a0t 5 ?_)
  | ((with_reducible refine a1f (id := 31) fun K hK => ?_); refine a0t 5 ?_)
  | ((with_reducible refine a1f (id := 33) fun K hK => ?_); refine a0t 6 ?_)
  | ((with_reducible refine a1f (id := 36) fun K hK => ?_); refine a0t 5 ?_)
  | ((with_reducible refine a1f (id := 39) fun K hK => ?_); refine a0t 5 ?_)
  | ((with_reducible refine a1f (id := 41) fun K hK => ?_); refine a0t 5 ?_)
  | ((with_reducible refine a1f (id := 45) fun K hK => ?_); refine a0t 4 ?_)
  | with_reducible first | refine a1h (id := 6) [] 7 a0y (by kernel_rfl) fun K hK => ?_ | refine a1h (id := 12) [] 8 a0y (by kernel_rfl) fun K hK => ?_ | refine a1h (id := 17) [] 16 a0y (by kernel_rfl) fun K hK => ?_ | refine a1h (id := 22) [] 11 a0y (by kernel_rfl) fun K hK => ?_ | refine a1h (id := 55) [] 12 a0y (by kernel_rfl) fun K hK => ?_ | refine a3r ?_
  | ((with_reducible refine mdH ?_); refine a2l (by kernel_rfl) (fun d hd => ?_) rfl (c4z hp hCT hfk hf hy hB hnr hI hbr hxb hnb ha26 q ?_ ?_) ?_; (focus (cases hd; exact lbR rfl)); (focus rfl); (focus (first | rfl | (simp [ninL, ninO, a2u, nins, nin, a0e, a0m, a0c, a0v, a0a, a0b, a1j, mapO, a1o, a1m, a0p, a0k, hdN, *]; done))); (rintro r' H' ⟨rfl, Z2, h2, rfl, hZ2, hT2⟩))
  | ((with_reducible refine lfH ?_); refine a6j (j := 3) (hB _ _ _ _ hy hZ2) rfl ⟨rfl, Z2, h2, rfl, hZ2, hT2.congr (b7a hxb hnb (.inr (.inl q)))⟩ trivial)
  | with_reducible first | refine a4e ?_ | refine a6g ?_ | refine a2j (id := 1) 9 a0y (by kernel_rfl) fun K hK => ?_ | refine a2j (id := 11) 6 a0y (by kernel_rfl) fun K hK => ?_ | refine stp ?_ | refine stpK ?_; intro K hK | refine stpC ?_; intro T E hT hE | refine stp2 ?_ ?_ <;> intro h | refine a0g rfl ?_ | refine a0j rfl (lbR rfl) a0i ?_ | refine a0j rfl (lbR rfl) (a0h (by simp [HPXB, a1i, fB, ext, upd, *])) ?_ | refine a1g (by decide) (by kernel_rfl) ?_ | refine a0o (by decide) ?_ | refine Kont.go hK ?_; clear hK K | refine KT.go hT ?_; clear hT hE T E | refine KT.go hE ?_; clear hT hE T E
  | simp [*, -List.all_flatten, -List.all_eq_true, DEFM, fB, a1k, a1d, a1i, hdN, a0p, a0k, a1m, a0u, a0r, a0s, a1y, a1z, a2a, anR, a5y, a5x, a2z, a3j, a2p, MG_t, MG_f, rmvs, a1c, a2o, a0x, a2b, a0b, a0e, FnD.row, Ins.row, a8w, a2p, a9i, a9h]
theorem c_31 {p : Pg} (hp : VOk p) {m : Bool} {fk : FuncId} (hCT : CT p m fk) (hfk : fnOk Tryz.prog fk = true) {B : Heap} {Y : Pts} {g : Bool} {f pc : Nat} (hf : f < p.funcs.length) {X : Ins} (hI : InsOk p p.funcs[f] X) (hy : Shp p Y) (hB : BsM p 3 B) (q : X.op = 31) : FCr Tryz.prog Gl 141 [.ptr [81] 8 0 0, .agg [.int .i64 (f : Int), .int .i64 (pc : Int)], .agg X.row, .clo fk [] [.ptr [88] 1 0 0]] (HP [] B (MF p Y g)) (OutT p m B (a3h p f pc X) Y g) := by
 have hsv := a2t hp
 have fB : ∀ r, B (3 :: r) = none := fun r => (hB Y g Y g hy hy).fb 3 r (by decide)
 have y3 := hy.rn
 have y4 := hy.cn
 have hrr := hp.regs (gm_ hf)
 obtain ⟨y1, y2⟩ := hy.at hf
 obtain ⟨nr, hnr⟩ : ∃ nr : Nat, p.funcs[f].regs = (nr : Int) := ⟨p.funcs[f].regs.toNat, by have := hrr.p0; have := hrr.p1; omega⟩
 rw [hnr, tN_] at y2
 have hnr64 : nr <= 64 := by have := hrr.r64; omega
 have hIa := hI.a
 have hIb := hI.b
 have hIc := hI.c
 have hi1 : ∀ (L : List (FM.Loc × FO)) (Z : Pts) (h : Bool), inH (HP L B (MF p Z h)) [88] := fun L Z h => a6w
 have hi2 : ∀ (L : List (FM.Loc × FO)) (Z : Pts) (h : Bool), inH (HP L B (MF p Z h)) [81] := fun L Z h => a2n a2z
 have hi3 : ∀ (L : List (FM.Loc × FO)) (Z : Pts) (h : Bool), Shp p Z -> inH (HP L B (MF p Z h)) [83, f] := fun L Z h hZ => a2n (a3j (hZ.at hf).1)
 have hbr : opR p p.funcs[f] X 102 X.b = true := by have := hI.b; rw [q] at this; exact this
 obtain ⟨k1, k2, k3, k4⟩ := b0c hp (gm_ hf) hbr
 obtain ⟨nb, hxb⟩ : ∃ nb : Nat, X.b = (nb : Int) := ⟨X.b.toNat, by omega⟩
 have hnb : nb < p.funcs.length := by omega
 have ha26 : X.op = 26 -> X.a < (nr : Int) := fun e => by have := hI.a; rw [e] at this; have := (b1m this (.inl rfl)).2; omega
 refine a3d (res := []) 16 210 [27, 63, 62, 183, 192, 191, 190] (fun d ix => 3 :: d :: ix) (fn := Tryz.f141) (by kernel_rfl) (by rfl) (by rfl) (by rfl) (by simp) (by decide) ?_
 repeat' first
  | ((with_reducible refine a1f (id := 24) fun K hK => ?_); refine a0t 3 ?_)
  | ((with_reducible refine a1f (id := 27) fun K hK => ?_); refine a0t 5 ?_)
  | ((with_reducible refine a1f (id := 31) fun K hK => ?_); refine a0t 5 ?_)
  | ((with_reducible refine a1f (id := 33) fun K hK => ?_); refine a0t 6 ?_)
  | ((with_reducible refine a1f (id := 36) fun K hK => ?_); refine a0t 5 ?_)
  | ((with_reducible refine a1f (id := 39) fun K hK => ?_); refine a0t 5 ?_)
  | ((with_reducible refine a1f (id := 41) fun K hK => ?_); refine a0t 5 ?_)
  | ((with_reducible refine a1f (id := 45) fun K hK => ?_); refine a0t 4 ?_)
  | with_reducible first | refine a1h (id := 6) [] 7 a0y (by kernel_rfl) fun K hK => ?_ | refine a1h (id := 12) [] 8 a0y (by kernel_rfl) fun K hK => ?_ | refine a1h (id := 17) [] 16 a0y (by kernel_rfl) fun K hK => ?_ | refine a1h (id := 22) [] 11 a0y (by kernel_rfl) fun K hK => ?_ | refine a1h (id := 55) [] 12 a0y (by kernel_rfl) fun K hK => ?_ | refine a3r ?_
  | ((with_reducible refine mdH ?_); refine a2l (by kernel_rfl) (fun d hd => ?_) rfl (c4z hp hCT hfk hf hy hB hnr hI hbr hxb hnb ha26 q ?_ ?_) ?_; (focus (cases hd; exact lbR rfl)); (focus rfl); (focus (first | rfl | (simp [ninL, ninO, a2u, nins, nin, a0e, a0m, a0c, a0v, a0a, a0b, a1j, mapO, a1o, a1m, a0p, a0k, hdN, *]; done))); (rintro r' H' ⟨rfl, Z2, h2, rfl, hZ2, hT2⟩))
  | ((with_reducible refine lfH ?_); refine a6j (j := 3) (hB _ _ _ _ hy hZ2) rfl ⟨rfl, Z2, h2, rfl, hZ2, hT2.congr (b7a hxb hnb (.inr (.inr q)))⟩ trivial)
  | with_reducible first | refine a4e ?_ | refine a6g ?_ | refine a2j (id := 1) 9 a0y (by kernel_rfl) fun K hK => ?_ | refine a2j (id := 11) 6 a0y (by kernel_rfl) fun K hK => ?_ | refine stp ?_ | refine stpK ?_; intro K hK | refine stpC ?_; intro T E hT hE | refine stp2 ?_ ?_ <;> intro h | refine a0g rfl ?_ | refine a0j rfl (lbR rfl) a0i ?_ | refine a0j rfl (lbR rfl) (a0h (by simp [HPXB, a1i, fB, ext, upd, *])) ?_ | refine a1g (by decide) (by kernel_rfl) ?_ | refine a0o (by decide) ?_ | refine Kont.go hK ?_; clear hK K | refine KT.go hT ?_; clear hT hE T E | refine KT.go hE ?_; clear hT hE T E
  | simp [*, -List.all_flatten, -List.all_eq_true, DEFM, fB, a1k, a1d, a1i, hdN, a0p, a0k, a1m, a0u, a0r, a0s, a1y, a1z, a2a, anR, a5y, a5x, a2z, a3j, a2p, MG_t, MG_f, rmvs, a1c, a2o, a0x, a2b, a0b, a0e, FnD.row, Ins.row, a8w, a2p, a9i, a9h]
end Go.Je
