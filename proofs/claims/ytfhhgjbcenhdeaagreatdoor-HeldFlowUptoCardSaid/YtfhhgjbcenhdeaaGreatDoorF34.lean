/- Parts of the proof. -/
import Derived.Test.YtfhhgjbcenhdeaaGreatDoorF26
import Derived.Test.YtfhhgjbcenhdeaaGreatDoorF28
import Derived.Test.YtfhhgjbcenhdeaaGreatDoorF29
import Derived.Test.YtfhhgjbcenhdeaaGreatDoorF31
import Derived.Test.YtfhhgjbcenhdeaaGreatDoorF30
set_option linter.unusedSimpArgs false
set_option linter.unusedVariables false
namespace Go.Je
open Go Go.FM Go.Gv Go.Proofs
set_option maxRecDepth 100000
set_option maxHeartbeats 40000000
theorem f0v {p : Pg} (hp : VOk p) {m : Bool} {fk : FuncId} (hCT : CT p m fk) (hfk : fnOk Tryz.prog fk = true) {B : Heap} {Y : Pts} {g : Bool} {f pc : Nat} (hf : f < p.funcs.length) {X : Ins} (hI : InsOk p p.funcs[f] X) (hy : Shp p Y) (hB : BsM p 3 B) : FCr Tryz.prog Gl 141 [.ptr [81] 8 0 0, .agg [.int .i64 (f : Int), .int .i64 (pc : Int)], .agg X.row, .clo fk [] [.ptr [88] 1 0 0]] (HP [] B (MF p Y g)) (OutT p m B (a3h p f pc X) Y g) := by
 by_cases q18 : X.op = 18
 . exact c_18 hp hCT hfk hf hI hy hB q18
 by_cases q21 : X.op = 21
 . exact e8x hp hCT hfk hf hI hy hB (.inl q21)
 by_cases q22 : X.op = 22
 . exact e8x hp hCT hfk hf hI hy hB (.inr (.inl q22))
 by_cases q23 : X.op = 23
 . exact e8x hp hCT hfk hf hI hy hB (.inr (.inr q23))
 by_cases q24 : X.op = 24
 . exact c_24 hp hCT hfk hf hI hy hB q24
 by_cases q3 : X.op = 3
 . exact c_f3 hp hCT hfk hf hI hy hB (.inl q3)
 by_cases q19 : X.op = 19
 . exact c_f3 hp hCT hfk hf hI hy hB (.inr (.inl q19))
 by_cases q20 : X.op = 20
 . exact c_f3 hp hCT hfk hf hI hy hB (.inr (.inr q20))
 by_cases q25 : X.op = 25
 . exact c_25 hp hCT hfk hf hI hy hB q25
 by_cases q33 : X.op = 33
 . exact f4o hp hCT hfk hf hI hy hB (.inl q33)
 by_cases q35 : X.op = 35
 . exact f4o hp hCT hfk hf hI hy hB (.inr q35)
 by_cases q34 : X.op = 34
 . exact e8v hp hCT hfk hf hI hy hB (.inl q34)
 by_cases q36 : X.op = 36
 . exact e8v hp hCT hfk hf hI hy hB (.inr (.inl q36))
 by_cases q47 : X.op = 47
 . exact e8v hp hCT hfk hf hI hy hB (.inr (.inr q47))
 by_cases q38 : X.op = 38
 . exact c_38 hp hCT hfk hf hI hy hB q38
 by_cases q48 : X.op = 48
 . by_cases h0 : 0 <= X.a
   . exact f9g hp hCT hfk hf hI hy hB q48 h0
   . exact f9h hp hCT hfk hf hI hy hB q48 h0
 by_cases q51 : X.op = 51
 . by_cases h1 : X.b = 1
   . exact f9e hp hCT hfk hf hI hy hB q51 h1
   . by_cases h0 : 0 <= X.c
     . exact f9d hp hCT hfk hf hI hy hB q51 h1 h0
     . exact f9f hp hCT hfk hf hI hy hB q51 h1 h0
 by_cases q26 : X.op = 26
 . exact c_26 hp hCT hfk hf hI hy hB q26
 by_cases q28 : X.op = 28
 . exact c_28 hp hCT hfk hf hI hy hB q28
 by_cases q31 : X.op = 31
 . exact c_31 hp hCT hfk hf hI hy hB q31
 by_cases q27 : X.op = 27
 . exact e8w hp hCT hfk hf hI hy hB (.inl q27)
 by_cases q29 : X.op = 29
 . exact e8w hp hCT hfk hf hI hy hB (.inr (.inl q29))
 by_cases q32 : X.op = 32
 . exact e8w hp hCT hfk hf hI hy hB (.inr (.inr q32))
 exact e8u hp hCT hfk hf hI hy hB q18 q21 q22 q23 q24 q3 q19 q20 q25 q33 q35 q34 q36 q47 q38 q48 q51 q26 q28 q31 q27 q29 q32
theorem f8v {p : Pg} (hp : VOk p) {m : Bool} {fk : FuncId} (hCT : CT p m fk) (hfk : fnOk Tryz.prog fk = true) {B : Heap} {L : List (FM.Loc × FO)} {Y : Pts} {g : Bool} {i j : Nat} (hi : i < p.funcs.length) (hj : j < p.funcs[i].code.length) (hy : Shp p Y) (hB : BsM p 4 B) (hl : hdN 4 (L.map Prod.fst) = true) (hn : ninL (inH (HP L B (MF p Y g))) L) :
 FCr Tryz.prog Gl 141 [.ptr [81] 8 0 0, .agg [.int .i64 (i : Int), .int .i64 (j : Int)], .agg p.funcs[i].code[j].row, .clo fk [] [.ptr [88] 1 0 0]] (HP [] (updL L B) (MF p Y g)) (OutT p m (updL L B) (a3h p i j p.funcs[i].code[j]) Y g) := f0v hp hCT hfk hi (hp.ins _ (gm_ hi) _ (gm_ hj)) hy (hB.call 3 (by decide) hy hl hn)
def cdP (p : Pg) (i j : Nat) (z : Pts) : Prop := ∀ i' (h : i' < p.funcs.length) j' (h' : j' < p.funcs[i'].code.length), i' < i \/ (i' = i /\ j' < j) -> a3h p i' j' p.funcs[i'].code[j'] z
theorem f9c (p : Pg) (z : Pts) : cdP p 0 0 z := fun _ _ _ _ h => by omega
theorem f8z {p : Pg} {i j : Nat} (hi : i < p.funcs.length) (hj : j < p.funcs[i].code.length) (z : Pts) : cdP p i (j + 1) z ↔ cdP p i j z /\ a3h p i j p.funcs[i].code[j] z := by
 constructor
 . intro h; exact ⟨fun i' h1 j' h2 h3 => h i' h1 j' h2 (by omega), h i hi j hj (.inr ⟨rfl, by omega⟩)⟩
 . rintro ⟨h1, h2⟩ i' h3 j' h4 h5
   by_cases e : i' = i /\ j' = j
   . obtain ⟨rfl, rfl⟩ := e; exact h2
   . exact h1 i' h3 j' h4 (by omega)
theorem f9a {p : Pg} {i : Nat} (hi : i < p.funcs.length) (z : Pts) : cdP p (i + 1) 0 z ↔ cdP p i p.funcs[i].code.length z := by
 constructor
 . intro h i' h1 j' h2 h3; exact h i' h1 j' h2 (by omega)
 . intro h i' h1 j' h2 h3
   by_cases e : i' = i
   . subst e; exact h i' h1 j' h2 (.inr ⟨rfl, h2⟩)
   . exact h i' h1 j' h2 (by omega)
theorem f9b {p : Pg} (z : Pts) : a5t p z ↔ cdP p p.funcs.length 0 z :=
 ⟨fun h i hi j hj _ => h i hi j hj, fun h i hi j hj => h i hi j hj (.inl hi)⟩
theorem TR.stepc {m : Bool} {C C' D : Pts -> Prop} {Y Z Z2 : Pts} {g h h2 : Bool} (H : TR m C C Y g Z h) (hT : TR m D D Z h Z2 h2) (hk : ∀ z, C' z ↔ C z /\ D z) : TR m C' C' Y g Z2 h2 := (H.comp hT).congr hk
theorem c1o {p : Pg} (hp : VOk p) {m : Bool} {fk : FuncId} (hCT : CT p m fk) (hfk : fnOk Tryz.prog fk = true) {B : Heap} {Y : Pts} {g : Bool} (hy : Shp p Y) (hB : BsM p 4 B) : FCr Tryz.prog Gl 92 [.ptr [81] 8 0 0, .clo fk [] [.ptr [88] 1 0 0]] (HP [] B (MF p Y g)) (OutT p m B (a5t p) Y g) := by
 have hsv := a2t hp
 have fB : ∀ r, B (4 :: r) = none := fun r => (hB Y g Y g hy hy).fb 4 r (by decide)
 have y3 := hy.rn
 have hi1 : ∀ (L : List (FM.Loc × FO)) (Z : Pts) (h : Bool), inH (HP L B (MF p Z h)) [88] := fun L Z h => a6w
 have hi2 : ∀ (L : List (FM.Loc × FO)) (Z : Pts) (h : Bool), inH (HP L B (MF p Z h)) [81] := fun L Z h => a2n a2z
 refine a3d (res := []) 8 36 [14, 13, 12, 22, 21, 20] (fun d ix => 4 :: d :: ix) (fn := Tryz.f92) (by kernel_rfl) (by rfl) (by rfl) (by rfl) (by simp) (by decide) ?_
 repeat' first
  | ((with_reducible refine a1f (id := 6) fun K hK => ?_); refine a0t 6 ?_)
  | ((with_reducible refine a1a ?_); refine a1q (σ := {x : Nat × (Pts × Bool) // x.1 <= p.funcs.length /\ Shp p x.2.1 /\ TR m (cdP p x.1 0) (cdP p x.1 0) Y g x.2.1 x.2.2}) (fun y => [(4, .undef), (5, .undef), (6, .undef), (7, .undef)]) [13, 12] (fun y => [(14, .int .i64 (y.1.1 : Int))]) [[4, 5], [4, 7]] (fun y => []) (fun y => MF p y.1.2.1 y.1.2.2) (fun y => p.funcs.length - y.1.1) ⟨(0, (Y, g)), Nat.zero_le _, hy, TR.id (f9c _ _)⟩ (gk3i (j := 4) [] (hB _ _ _ _ hy hy) ?_ ?_ ?_ ?_ ?_ ?_ ?_) ?_; (iterate 7 (focus (first | rfl | (simp [LPXB, *, SIMB, hdN, injB, fB, a1k, a1d, a1i, hdN, a0p, a0k, a1m]; done)))); rintro ⟨⟨i, ⟨Z, u⟩⟩, hi, hZ, hT1⟩; simp only [lpS, LPXB]; (try dsimp only at hi hZ hT1); have z3 := hZ.rn; rcases a0z hi with hlt | ⟨hlt, he⟩; rotate_left; subst i; rotate_left; have wi := wli hlt (by have := hp.nf; omega); have hcv := d6r hp hlt)
  | ((with_reducible refine a1a ?_); refine a1q (σ := {x : Nat × (Pts × Bool) // x.1 <= (p.funcs[i]'hlt).code.length /\ Shp p x.2.1 /\ TR m (cdP p i x.1) (cdP p i x.1) Y g x.2.1 x.2.2}) (fun y => [(6, .undef), (7, .undef)]) [21, 20, 14, 13, 12] (fun y => [(22, .int .i64 (y.1.1 : Int))]) [[4, 7]] (fun y => []) (fun y => MF p y.1.2.1 y.1.2.2) (fun y => (p.funcs[i]'hlt).code.length - y.1.1) ⟨(0, (Z, u)), Nat.zero_le _, hZ, hT1⟩ (gk3i (j := 4) [] (hB _ _ _ _ hy hZ) ?_ ?_ ?_ ?_ ?_ ?_ ?_) ?_; (iterate 7 (focus (first | rfl | (simp [LPXB, *, SIMB, hdN, injB, fB, a1k, a1d, a1i, hdN, a0p, a0k, a1m]; done)))); rintro ⟨⟨j, ⟨V, v⟩⟩, hj, hV, hT2⟩; simp only [lpS, LPXB]; (try dsimp only at hj hV hT2); have v3 := hV.rn; rcases a0z hj with hlk | ⟨hlk, he⟩; rotate_left; subst j; rotate_left; have wk := wli hlk (by omega))
  | ((with_reducible refine mdH ?_); refine a2l (by kernel_rfl) (fun d hd => ?_) rfl (f8v hp hCT hfk hlt hlk hV hB ?_ ?_) ?_; (focus (cases hd; exact lbR rfl)); (focus rfl); (focus (first | rfl | (simp [ninL, ninO, a2u, nins, nin, a0e, a0m, a0c, a0v, a0a, a0b, a1j, mapO, a1o, a1m, a0p, a0k, hdN, *]; done))); (rintro r' H' ⟨rfl, V2, v2_, rfl, hV2, hT4⟩))
  | ((with_reducible refine a0q ?_); refine a1b (⟨(j + 1, (V2, v2_)), by omega, hV2, TR.stepc hT2 hT4 (f8z hlt hlk)⟩) (gk3i (j := 4) [] (hB _ _ _ _ hy hV2) ?_ ?_ ?_ ?_ ?_ ?_ ?_) ?_; (iterate 7 (focus (first | rfl | (simp [LPXB, *, SIMB, hdN, injB, fB, a1k, a1d, a1i, hdN, a0p, a0k, a1m]; done)))); (focus (dsimp only; omega)))
  | ((with_reducible refine a0q ?_); refine a1b (⟨(i + 1, (V, v)), by omega, hV, hT2.congr (f9a hlt)⟩) (gk3i (j := 4) [] (hB _ _ _ _ hy hV) ?_ ?_ ?_ ?_ ?_ ?_ ?_) ?_; (iterate 7 (focus (first | rfl | (simp [LPXB, *, SIMB, hdN, injB, fB, a1k, a1d, a1i, hdN, a0p, a0k, a1m]; done)))); (focus (dsimp only; omega)))
  | ((with_reducible refine lfH ?_); refine a6j (j := 4) (hB _ _ _ _ hy hZ) rfl ⟨rfl, Z, u, rfl, hZ, hT1.congr f9b⟩ trivial)
  | with_reducible first | refine a4e ?_ | refine a6g ?_ | refine stp ?_ | refine stpK ?_; intro K hK | refine stpC ?_; intro T E hT hE | refine stp2 ?_ ?_ <;> intro h | refine a0g rfl ?_ | refine a0j rfl (lbR rfl) a0i ?_ | refine a0j rfl (lbR rfl) (a0h (by simp [HPXB, a1i, fB, ext, upd, *])) ?_ | refine a1g (by decide) (by kernel_rfl) ?_ | refine a0o (by decide) ?_ | refine Kont.go hK ?_; clear hK K | refine KT.go hT ?_; clear hT hE T E | refine KT.go hE ?_; clear hT hE T E
  | simp [*, -List.all_flatten, -List.all_eq_true, DEFM, fB, a1k, a1d, a1i, hdN, a0p, a0k, a1m, a0u, a0r, a0s, a1y, a1z, a2a, anR, a5y, a5x, a2z, a3j, a2p, MG_t, MG_f, rmvs, a1c, a2o, a0x, a2b, a0b, a0e, FnD.row, Ins.row, a2p]
theorem c5w {p : Pg} (hp : VOk p) : PC Tryz.prog Gl 140 [.agg [.list 4 (fns p.funcs), .list 2 (gbs p.globals), .list 1 (lays p.layouts), .int .i64 p.main]] (.list 2 (sits (a0l p))) := by
 refine a3s (res := [.tmp 2]) 8 42 [13, 12, 11, 21, 20, 19, 27] (fun d ix => 0 :: d :: ix) (fn := Tryz.f140) (by kernel_rfl) (by rfl) (by rfl) (by rfl) (by simp) (by decide) ?_
 repeat' first
  | ((with_reducible refine a1a ?_); refine a1q (σ := {i : Nat // i <= p.funcs.length}) (fun y => [(4, .undef), (5, .undef), (6, .undef), (7, .undef), (3, .sl [0, 1000] 2 0 (sitP p.funcs y.1).length)]) [12, 11] (fun y => [(13, .int .i64 (y.1 : Int))]) [[0, 5], [0, 7], [0, 9]] (fun y => [([0, 1000], .cells 98 2 (sits (sitP p.funcs y.1)))]) (fun y => noH) (fun y => p.funcs.length - y.1) ⟨0, by simp⟩ (gk3 (j := 0) [] (Bs.pc _) ?_ ?_ ?_ ?_ ?_ ?_ ?_) ?_; (iterate 7 (focus (first | rfl | (simp [LPXB, *, SIMB, hdN, injB, f1a, sits, b1z]; done)))); rintro ⟨i, hi⟩; simp only [lpS, LPXB]; (try dsimp only at hi); rcases a0z hi with hlt | ⟨hlt, rfl⟩; have wi := wli hlt (by have := hp.nf; omega); have hc := d6r hp hlt; have hz := d2h p.funcs i; rotate_left; have e : a0l p = sitP p.funcs p.funcs.length := rfl; have hl := e5v hp (nr_ _); rotate_left)
  | ((with_reducible refine a1a ?_); refine a1q (σ := {j : Nat // j <= (p.funcs[i]'hlt).code.length}) (fun y => [(6, .undef), (7, .undef), (3, .sl [0, 1000] 2 0 (sit2 p.funcs i y.1).length)]) [20, 19, 13, 12, 11] (fun y => [(21, .int .i64 (y.1 : Int))]) [[0, 7]] (fun y => [([0, 1000], .cells 98 2 (sits (sit2 p.funcs i y.1)))]) (fun y => noH) (fun y => (p.funcs[i]'hlt).code.length - y.1) ⟨0, by simp⟩ (gk3 (j := 0) [] (Bs.pc _) ?_ ?_ ?_ ?_ ?_ ?_ ?_) ?_; (iterate 7 (focus (first | rfl | (simp [LPXB, *, SIMB, hdN, injB, d2h]; done)))); rintro ⟨j, hj⟩; simp only [lpS, LPXB]; (try dsimp only at hj); rcases a0z hj with hlk | ⟨hlk, rfl⟩; have wk := wli hlk (by omega); have hl := f1c hp hlt hj; have hs := szn (n := (sit2 p.funcs i j).length + 1) (k := 16) (by omega) (by decide); have hs2 : (sit2 p.funcs i j).length + 1 <= 4611686018427387904 := (by omega); rcases d7p ((p.funcs[i]'hlt).code[j]'hlk).op with ⟨q1, hac⟩ | ⟨q1, q2, hac⟩ | ⟨q1, q2, q3, hac⟩ | ⟨q1, q2, q3, q4, hac⟩ | ⟨q1, q2, q3, q4, hac⟩; rotate_right; have hen := d9e hlt; rotate_left)
  | ((with_reducible refine a0q ?_); refine a1b (⟨j + 1, by omega⟩) (gk3 (j := 0) [] (Bs.pc _) ?_ ?_ ?_ ?_ ?_ ?_ ?_) ?_; (iterate 7 (focus (have e := e5x hlt hlk hac; first | rfl | (simp [LPXB, *, SIMB, hdN, injB]; done)))); (focus (dsimp only; omega)))
  | ((with_reducible refine a0q ?_); refine a1b (⟨j + 1, by omega⟩) (gk3 (j := 0) [] (Bs.pc _) ?_ ?_ ?_ ?_ ?_ ?_ ?_) ?_; (iterate 7 (focus (have e := d9b hlt hlk hac; first | rfl | (simp [LPXB, *, SIMB, hdN, injB]; done)))); (focus (dsimp only; omega)))
  | ((with_reducible refine a0q ?_); refine a1b (⟨i + 1, by omega⟩) (gk3 (j := 0) [] (Bs.pc _) ?_ ?_ ?_ ?_ ?_ ?_ ?_) ?_; (iterate 7 (focus (first | rfl | (simp [LPXB, *, SIMB, hdN, injB]; done)))); (focus (dsimp only; omega)))
  | with_reducible first | refine stp ?_ | refine stpK ?_; intro K hK | refine stpC ?_; intro T E hT hE | refine stp2 ?_ ?_ <;> intro h | refine a0g rfl ?_ | refine a0j rfl (lbR rfl) a0i ?_ | refine a0j rfl (lbR rfl) (a0h (by simp [HPXB, ext, upd, *])) ?_ | refine a1g (by decide) (by kernel_rfl) ?_ | refine a0o (by decide) ?_ | refine Kont.go hK ?_; clear hK K | refine KT.go hT ?_; clear hT hE T E | refine KT.go hE ?_; clear hT hE T E
  | simp [*, -List.all_flatten, -List.all_eq_true, DEFB, LENB, List.take_length, c1s, asR]
def MN (p : Pg) (y : Pts) : Heap := fun l => if l = [88] then none else MF p y false l
theorem b7u {p : Pg} {y : Pts} {l : FM.Loc} (h : l ≠ [88]) : MN p y l = MF p y false l := by simp [MN, h]
theorem a6r (p : Pg) (y : Pts) (k : Nat) (r : List Nat) (hk : k <= 20) : MN p y (k :: r) = none := by
 unfold MN
 split
 . rfl
 . exact a1i p y false k r hk
section
variable {L : List (FM.Loc × FO)} {B : Heap} {p : Pg} {y : Pts}
theorem b2u : HP L B (MN p y) [81] = some (.cells 138 8 [anR p]) := a8k (by rw [b7u (by decide)]; exact e9v p y false)
theorem b7k : HP L B (MN p y) [82] = some (.cells 136 1 (rowR y.regs)) := a8k (by rw [b7u (by decide)]; exact d7u p y false)
theorem b7j {f : Nat} (h : f < y.regs.length) : HP L B (MN p y) [83, f] = some (.cells 141 1 (rowM f y.regs[f])) := a8k (by rw [b7u (by simp), e2i, gE_ h]; rfl)
theorem b7i : HP L B (MN p y) [84] = some (.cells 141 1 (rowC y.cells)) := a8k (by rw [b7u (by decide)]; exact d7t p y false)
theorem f2n (t : SL) : t.loc ≠ [88] := by cases t <;> simp [SL.loc]
theorem e4k {t : SL} (ht : t.ok y) : HP L B (MN p y) t.loc = some (mapO (getS y t)) := a8k (by rw [b7u (f2n t)]; exact d7s ht)
end
theorem d7q {p : Pg} {y : Pts} {l : FM.Loc} {o : FO} (h : MN p y l = some o) : l ≠ [88] /\ MF p y false l = some o := by
 unfold MN at h
 split at h
 . cases h
 . rename_i e; exact ⟨e, h⟩
theorem d7r {p : Pg} {y y' : Pts} (hy : Shp p y) (hy' : Shp p y') (l : FM.Loc) (h : MN p y l ≠ none) : MN p y' l ≠ none := by
 by_cases e : l = [88]
 . subst e; exact absurd rfl h
 . rw [b7u e] at h ⊢
   exact c9b hy hy' false false l h
theorem f2d {p : Pg} {y : Pts} (hy : Shp p y) : ∀ l o, MN p y l = some o -> ninO (fun l => MN p y l ≠ none) o := fun l o h => by
 have h1 := (d7q h).2
 have hne := (d7q h).1
 have up : ∀ q, q ≠ [88] -> MF p y false q ≠ none -> MN p y q ≠ none := fun q e hq => by rw [b7u e]; exact hq
 have key : ∀ (U : FM.Loc -> Prop) (xs : List (List FV)), (∀ r ∈ xs, nins U r) -> a2u U xs := by
  intro U xs
  induction xs with
  | nil => intro _; trivial
  | cons r xs ih => intro h; exact ⟨h r (by simp), ih fun r hr => h r (by simp [hr])⟩
 unfold MF at h1
 split at h1
 . obtain rfl := sI_ h1
   refine ⟨⟨a0e _, a0m _, a0c _, trivial, a0v _, up _ (by decide) (by rw [e2f]; simp), up _ (by decide) (by rw [d7u]; simp), up _ (by decide) (by rw [d7t]; simp), trivial⟩, trivial⟩
 . obtain rfl := sI_ h1
   refine key _ _ fun r hr => ?_
   obtain ⟨i, hi, rfl⟩ := List.getElem_of_mem hr
   rw [a1y hi]
   rw [a0u] at hi
   exact ⟨up _ (by simp) (by rw [e2i, gE_ hi]; simp), trivial⟩
 . rw [oM_] at h1
   obtain ⟨r, hr, rfl⟩ := h1
   refine key _ _ fun q hq => ?_
   obtain ⟨i, hi, rfl⟩ := List.getElem_of_mem hq
   rw [a1z hi]
   rw [a0r] at hi
   exact ⟨up _ (by simp) (by rw [e2h, hr, Option.bind_some, gE_ hi]; simp), trivial⟩
 . obtain rfl := sI_ h1
   refine key _ _ fun q hq => ?_
   obtain ⟨i, hi, rfl⟩ := List.getElem_of_mem hq
   rw [a2a hi]
   rw [a0s] at hi
   exact ⟨up _ (by simp) (by rw [e2g, gE_ hi]; simp), trivial⟩
 . rw [oM_] at h1
   obtain ⟨r, hr, rfl⟩ := h1
   exact a1o _ _
 . rw [oM_] at h1
   obtain ⟨r, hr, rfl⟩ := h1
   exact a1o _ _
 . obtain rfl := sI_ h1
   exact c1t _ _
 . exact absurd rfl hne
 . cases h1
theorem d6v {p : Pg} {y : Pts} (hy : Shp p y) {B : Heap} (hB : ∀ l o, B l = some o -> ninO (fun l => ext B (MN p y) l ≠ none) o) : Clo (ext B (MN p y)) := fun l o hl => by
 rw [a3y] at hl
 cases e : MN p y l with
 | none => rw [e] at hl; exact hB l o hl
 | some o' =>
   rw [e] at hl
   obtain rfl := sI_ hl
   refine a3k (fun q hq => ?_) (f2d hy l o' e)
   obtain ⟨o2, h2⟩ := Option.ne_none_iff_exists'.1 hq
   rw [a7w h2]; simp
abbrev BsN (p : Pg) (j : Nat) (B : Heap) : Prop := ∀ y y', Shp p y -> Shp p y' -> Bs (inH (HP [] B (MN p y))) j B (MN p y')
theorem bsMN {p : Pg} {y : Pts} (hy : Shp p y) (j : Nat) (hj : j <= 20) : Bs (fun _ => False) j noH (MN p y) :=
 ⟨fun _ _ _ => rfl, fun k r hk => a6r p y k r (by omega), d6v hy fun _ _ h => (by cases h), fun _ h => h.elim⟩
theorem bsN0 (p : Pg) (j : Nat) (hj : j <= 20) : BsN p j noH := fun y y' hy hy' =>
 ⟨fun _ _ _ => rfl, fun k r hk => a6r p y' k r (by omega), d6v hy' fun _ _ h => (by cases h), fun l hl hn => by
  have hl : HP [] noH (MN p y) l ≠ none := hl
  rw [a0w] at hn
  refine hl (a3t.2 ⟨?_, rfl⟩)
  cases e : MN p y l with
  | none => rfl
  | some o => exact absurd hn.1 (d7r hy hy' l (by simp [e]))⟩
theorem BsN.call {p : Pg} {j : Nat} {B : Heap} {L : List (FM.Loc × FO)} (i : Nat) (hB : BsN p j B) (hi : i < j) {y : Pts} (hy : Shp p y) (hl : hdN j (L.map Prod.fst) = true) (ho : ninL (inH (HP L B (MN p y))) L) : BsN p i (updL L B) := fun y1 y2 h1 h2 => by
 have hup : ∀ y', Shp p y' -> ∀ q, HP L B (MN p y) q ≠ none -> HP L B (MN p y') q ≠ none := fun y' hy' q hq hn => by
  rw [a3t] at hn
  refine hq (a3t.2 ⟨?_, hn.2⟩)
  cases e : MN p y q with
  | none => rfl
  | some o => exact absurd hn.1 (d7r hy hy' q (by simp [e]))
 exact Bs.call (A := MN p y1) (L := L) i (hB y1 y2 h1 h2) hi hl (by
  have : ∀ {L' : List (FM.Loc × FO)}, ninL (inH (HP L B (MN p y))) L' -> ninL (fun l => HP L B (MN p y2) l ≠ none) L' := by
   intro L'
   induction L' with
   | nil => intro _; trivial
   | cons q r ih => intro h; exact ⟨a3k (fun l hl => hup y2 h2 l hl) h.1, ih h.2⟩
  exact this ho) fun l hl => d7r h1 h2 l hl
theorem f1d {y : Pts} {t s : SL} (a : List Int) (h : s.ok y) : s.ok (setS y t a) := by
 cases s with
 | r f i =>
   obtain ⟨h1, h2⟩ := h
   cases t with
   | r g k =>
     refine ⟨by simpa [setS, setR] using h1, ?_⟩
     simp only [setS, setR, a5j]
     split
     . rename_i e; rw [List.length_set, e.1]; exact h2
     . exact h2
   | c o => exact ⟨h1, h2⟩
 | c o =>
   have h : o < y.cells.length := h
   cases t with
   | r g k => exact h
   | c q => show o < _; simpa [setS, setC] using h
def u64s (g : List (BitVec 64)) : List (List FV) := g.map fun s => [.int .u64 (s.toNat : Int)]
theorem a1t (g : List (BitVec 64)) : (u64s g).length = g.length := by simp [u64s]
theorem b5j {g : List (BitVec 64)} {i : Nat} (h : i < (u64s g).length) : (u64s g)[i] = [.int .u64 ((g[i]'(by rwa [a1t] at h)).toNat : Int)] := by simp [u64s]
theorem c5s (g : List (BitVec 64)) (i : Nat) (x : BitVec 64) (h : i < g.length) : (u64s g).modify i (fun r => FV.int .u64 (x.toNat : Int) :: r.tail) = u64s (g.set i x) := by
 refine List.ext_getElem (by simp [u64s]) fun j h1 h2 => ?_
 rw [List.getElem_modify]
 split
 . rename_i e
   subst e
   simp [u64s]
 . rename_i e
   simp [u64s, List.getElem_set_ne e]
theorem a2i : ∀ g : List (BitVec 64), nlss (u64s g) = true
 | [] => rfl
 | _ :: g => by simpa [u64s, nlss, nls, nl] using a2i g
theorem d6y (g : List (BitVec 64)) : (u64s g).flatten.all FV.cellV = true := by simp [u64s, FV.cellV]
theorem c3i (s : BitVec 64) : IntKind.wrap .u64 (s.toNat : Int) = (s.toNat : Int) := by
 have := s.isLt
 simp [IntKind.wrap, IntKind.bits, IntKind.signed]
 omega
theorem d8a {n : Nat} (h : n < 18446744073709551616) : IntKind.wrap .u64 (n : Int) = (n : Int) := by
 simp [IntKind.wrap, IntKind.bits, IntKind.signed]
 omega
theorem b8v (s : BitVec 64) : BitVec.ofInt (IntKind.bits .u64) (s.toNat : Int) = s := by
 show BitVec.ofInt 64 (s.toNat : Int) = s
 simp
theorem f1r (s t : BitVec 64) : IntKind.wrap .u64 ((BitVec.ofInt (IntKind.bits .u64) (s.toNat : Int) ||| BitVec.ofInt (IntKind.bits .u64) (t.toNat : Int)).toNat : Int) = ((s ||| t).toNat : Int) := by
 rw [b8v, b8v]; exact c3i _
theorem b9s (s t : BitVec 64) : IntKind.wrap .u64 ((BitVec.ofInt (IntKind.bits .u64) (s.toNat : Int) &&& BitVec.ofInt (IntKind.bits .u64) (t.toNat : Int)).toNat : Int) = ((s &&& t).toNat : Int) := by
 rw [b8v, b8v]; exact c3i _
theorem d3a (s t : BitVec 64) : IntKind.wrap .u64 ((BitVec.ofInt (IntKind.bits .u64) (s.toNat : Int) &&& ~~~BitVec.ofInt (IntKind.bits .u64) (t.toNat : Int)).toNat : Int) = ((s &&& ~~~t).toNat : Int) := by
 rw [b8v, b8v]; exact c3i _
theorem d2z {u : Int} (h0 : 0 <= u) (h1 : u < 64) : IntKind.wrap .u64 (2 ^ (min u.toNat (IntKind.bits .u64))) = ((BitVec.twoPow 64 u.toNat).toNat : Int) := by
 have h2 : u.toNat < 64 := by omega
 have h3 : 2 ^ u.toNat < 18446744073709551616 := Nat.lt_of_lt_of_le (Nat.pow_lt_pow_right (by omega) h2) (by decide)
 have e : min u.toNat (IntKind.bits .u64) = u.toNat := Nat.min_eq_left (by show u.toNat <= 64; omega)
 rw [e, show ((2 : Int) ^ u.toNat) = ((2 ^ u.toNat : Nat) : Int) by simp, d8a h3, BitVec.toNat_twoPow, Nat.mod_eq_of_lt h3]
theorem e5l {p : Pg} {f : Nat} {nm : ByteArray} {pa rg : Int} {c : List Ins} (hF : FOk p f nm pa rg c) {us : List Int} {g : List (BitVec 64)} {B : Heap} (hB : BsH 2 B) (hS : B [95, f] = some (.cells 72 11 [[.list 4 (fns p.funcs), .list 2 (gbs p.globals), .list 1 (lays p.layouts), .int .i64 p.main, .int .i64 f, .str nm, .int .i64 pa, .int .i64 rg, .list 5 (inss c), .sl [96, f] 1 0 c.length, .sl [97, f] 1 0 c.length]])) (hu : B [96, f] = some (.cells 3 1 (ints us))) (hg : B [97, f] = some (.cells 68 1 (u64s g))) (hul : us.length = c.length) (hgl : g.length = c.length) {i : Nat} (hi : i < c.length) {u : Int} (hui : us[i] = u) (hu64 : u < 64) {x : BitVec 64} (hgi : g[i] = x) : FC Tryz.prog Gl 137 [.ptr [95, f] 11 0 0, .int .i64 i] (HP [] B noH) (.int .u64 ((aftB c[i] u x).toNat : Int)) (HP [] B noH) := by
 have hc := hF.hc
 have h1000 := hc.n1000
 have hfr : ∀ r, B (2 :: r) = none := fun r => hB.fr 2 r (nr_ _)
 obtain ⟨y, hy⟩ : ∃ y, aftB c[i] u x = y := ⟨_, rfl⟩
 obtain ⟨t, ht⟩ : ∃ t, BitVec.twoPow 64 u.toNat = t := ⟨_, rfl⟩
 have hneg : 0 <= u -> ¬ u < 0 := by omega
 have hsh : 0 <= u -> IntKind.wrap .u64 (2 ^ (min u.toNat (IntKind.bits .u64))) = (t.toNat : Int) := fun h => by rw [<- ht]; exact d2z h hu64
 have hor := f1r x t
 have hnt := d3a x t
 have e1 : 0 <= u -> c[i].op = 39 -> x ||| t = y := fun h0 h => by rw [<- hy, aftB, if_pos h0, if_pos h, ht]
 have e2 : 0 <= u -> ¬ c[i].op = 39 -> x &&& ~~~t = y := fun h0 h => by rw [<- hy, aftB, if_pos h0, if_neg h, ht]
 have e3 : ¬ 0 <= u -> y = x := fun h0 => by rw [<- hy, aftB, if_neg h0]
 have hor2 : 0 <= u -> c[i].op = 39 -> _ := fun h0 h => hor.trans (by rw [e1 h0 h])
 have hnt2 : 0 <= u -> ¬ c[i].op = 39 -> _ := fun h0 h => hnt.trans (by rw [e2 h0 h])
 clear hor hnt e1 e2 ht
 simp only [hy]
 simp at hor2 hnt2
 refine a5n (res := [.tmp 4]) 7 42 [] (fun d ix => 2 :: d :: ix) (fn := Tryz.f137) (by kernel_rfl) (by rfl) (by rfl) (by rfl) (by simp) (by decide) ?_
 repeat' first
  | ((with_reducible refine c2j (j := 2) hB.bs ?_ ?_ ?_ ?_); (iterate 2 (focus rfl)); (focus (first | rfl | (simp [*]; done))); focus (first | trivial | (simp [nin, nins, a3n, inH, HPXB]; done)))
  | with_reducible first | refine stp ?_ | refine stpK ?_; intro K hK | refine stpC ?_; intro T E hT hE | refine stp2 ?_ ?_ <;> intro h | refine a0g rfl ?_ | refine a0j rfl (lbR rfl) a0i ?_ | refine a0j rfl (lbR rfl) (a0h (by simp [HPXB, hS, hfr, ext, upd, *])) ?_ | refine a1g (by decide) (by kernel_rfl) ?_ | refine a0o (by decide) ?_ | refine Kont.go hK ?_; clear hK K | refine KT.go hT ?_; clear hT hE T E | refine KT.go hE ?_; clear hT hE T E
  | simp [*, -List.all_flatten, -List.all_eq_true, DEFB, LENB, asR, a1w, Ins.row, a1k, hS, hu, hg, hfr, a1t, b5j]
theorem d8k {p : Pg} {f : Nat} {nm : ByteArray} {pa rg : Int} {c : List Ins} (hF : FOk p f nm pa rg c) {U I : FV} {B : Heap} (hB : BsH 1 B) (hS : B [95, f] = some (.cells 72 11 [[.list 4 (fns p.funcs), .list 2 (gbs p.globals), .list 1 (lays p.layouts), .int .i64 p.main, .int .i64 f, .str nm, .int .i64 pa, .int .i64 rg, .list 5 (inss c), U, I]])) {i : Nat} (hi : i < c.length) (r : Int) : FC Tryz.prog Gl 134 [.ptr [95, f] 11 0 0, .int .i64 i, .int .i64 r] (HP [] B noH) (.bool (wrB c[i] r)) (HP [] B noH) := by
 have hc := hF.hc
 have h1000 := hc.n1000
 have hfr : ∀ r, B (1 :: r) = none := fun r => hB.fr 1 r (nr_ _)
 refine a5n (res := [.tmp 6]) 8 44 [] (fun d ix => 1 :: d :: ix) (fn := Tryz.f134) (by kernel_rfl) (by rfl) (by rfl) (by rfl) (by simp) (by decide) ?_
 repeat' first
  | ((with_reducible refine c2j (j := 1) hB.bs ?_ ?_ ?_ ?_); (iterate 2 (focus rfl)); (focus (first | rfl | (simp [*]; done))); focus (first | trivial | (simp [nin, nins, a3n, inH, HPXB]; done)))
  | with_reducible first | refine a2j (id := 2) 28 a0y (by kernel_rfl) fun K hK => ?_ | refine stp ?_ | refine stpK ?_; intro K hK | refine stpC ?_; intro T E hT hE | refine stp2 ?_ ?_ <;> intro h | refine a0g rfl ?_ | refine a1e (hF.defs hi) (by simp [nls, nl, *, NLXB]) ?_ | refine hpc (hF.defs hi) (by simp [nls, nl, *, NLXB]) ?_ | refine a1e (c6b (Nat.le_trans (c0w _) (by decide))) (by simp [nls, nl, *, NLXB]) ?_ | refine hpc (c6b (Nat.le_trans (c0w _) (by decide))) (by simp [nls, nl, *, NLXB]) ?_ | refine a0j rfl (lbR rfl) a0i ?_ | refine a0j rfl (lbR rfl) (a0h (by simp [HPXB, hS, hfr, ext, upd, *])) ?_ | refine a1g (by decide) (by kernel_rfl) ?_ | refine a0o (by decide) ?_ | refine Kont.go hK ?_; clear hK K | refine KT.go hT ?_; clear hT hE T E | refine KT.go hE ?_; clear hT hE T E
  | simp [*, -List.all_flatten, -List.all_eq_true, DEFB, LENB, asR, a1w, Ins.row, a1k, hS, hfr, wrB]
def mt (n : Nat) : List (List Int) := List.replicate n []
def MA (c : Nat) (R : List Nat) (r : Nat) : Heap := fun l => match l with
 | [83, f] => (R[f]?).map fun n => .cells 141 1 (rowM f (mt n))
 | [85, f, i] => if i < R.getD f 0 \/ (f = R.length /\ i < r) then some (mapO []) else none
 | [86, o] => if o < c then some (mapO []) else none
 | _ => none
theorem a9g (c : Nat) (R : List Nat) (r : Nat) (k : Nat) (s : List Nat) (hk : k <= 82) : MA c R r (k :: s) = none := by
 unfold MA
 split <;> first | rfl | (rename_i h; simp at h; omega)
theorem b3o (c : Nat) (R : List Nat) (r : Nat) (s : List Nat) : MA c R r (84 :: s) = none := by
 unfold MA
 split <;> first | rfl | (rename_i h; simp at h)
theorem b3n (c : Nat) (R : List Nat) (r : Nat) (s : List Nat) : MA c R r (87 :: s) = none := by
 unfold MA
 split <;> first | rfl | (rename_i h; simp at h)
theorem MA_0 : MA 0 [] 0 = noH := by
 funext l
 unfold MA
 split <;> simp [noH]
theorem e2j (c : Nat) (R : List Nat) (r o : Nat) : MA c R r [86, o] = if o < c then some (mapO []) else none := id (Eq.refl _)
theorem e9w (c : Nat) (R : List Nat) (r f : Nat) : MA c R r [83, f] = (R[f]?).map fun n => .cells 141 1 (rowM f (mt n)) := id (Eq.refl _)
theorem e2k (c : Nat) (R : List Nat) (r f i : Nat) : MA c R r [85, f, i] = if i < R.getD f 0 \/ (f = R.length /\ i < r) then some (mapO []) else none := id (Eq.refl _)
theorem MA_c (c : Nat) (R : List Nat) (r : Nat) : upd (MA c R r) [86, c] (mapO []) = MA (c + 1) R r := by
 funext l
 unfold upd
 by_cases e : l = [86, c]
 . subst e; rw [if_pos rfl, e2j, if_pos (by omega)]
 . rw [if_neg e]
   unfold MA
   split
   . rfl
   . rfl
   . rename_i o
     have : o ≠ c := fun h => e (by rw [h])
     by_cases h1 : o < c
     . rw [if_pos h1, if_pos (by omega)]
     . rw [if_neg h1, if_neg (by omega)]
   . rfl
theorem MA_r (c : Nat) (R : List Nat) (r : Nat) : upd (MA c R r) [85, R.length, r] (mapO []) = MA c R (r + 1) := by
 funext l
 unfold upd
 by_cases e : l = [85, R.length, r]
 . subst e; rw [if_pos rfl, e2k, if_pos (.inr ⟨rfl, by omega⟩)]
 . rw [if_neg e]
   unfold MA
   split
   . rfl
   . rename_i f i
     have : ¬ (f = R.length /\ i = r) := fun ⟨h1, h2⟩ => e (by rw [h1, h2])
     by_cases h1 : i < R.getD f 0 \/ (f = R.length /\ i < r)
     . rw [if_pos h1, if_pos (by omega)]
     . rw [if_neg h1, if_neg (by omega)]
   . rfl
   . rfl
theorem MA_R (c : Nat) (R : List Nat) (r : Nat) : upd (MA c R r) [83, R.length] (.cells 141 1 (rowM R.length (mt r))) = MA c (R ++ [r]) 0 := by
 funext l
 unfold upd
 by_cases e : l = [83, R.length]
 . subst e; rw [if_pos rfl, e9w]; simp
 . rw [if_neg e]
   unfold MA
   split
   . rename_i f
     have hf : f ≠ R.length := fun h => e (by rw [h])
     by_cases h1 : f < R.length
     . rw [List.getElem?_append_left h1]
     . rw [gn_ (by omega), gn_ (by simp; omega)]
   . rename_i f i
     by_cases h1 : f < R.length
     . have : (R ++ [r]).getD f 0 = R.getD f 0 := by simp [gD_, List.getElem?_append_left h1]
       rw [this]
       simp only [List.length_append, List.length_singleton]
       by_cases h2 : i < R.getD f 0
       . rw [if_pos (.inl h2), if_pos (.inl h2)]
       . rw [if_neg (by omega), if_neg (by omega)]
     . by_cases h2 : f = R.length
       . subst h2
         simp
       . have e1 : R.getD f 0 = 0 := by simp [gD_, gn_ (Nat.le_of_not_lt h1)]
         have e2 : (R ++ [r]).getD f 0 = 0 := by rw [gD_, gn_ (by simp; omega)]; rfl
         rw [e1, e2]
         simp [h2]
   . rfl
   . rfl
theorem d2o (n : Nat) : rowC (mt (n + 1)) = rowC (mt n) ++ [[.mp [86, n]]] := by
 have : mt (n + 1) = mt n ++ [[]] := by simp [mt, List.replicate_succ']
 rw [this]
 simp [rowC, List.mapIdx_append, mt]
theorem e6a (f n : Nat) : rowM f (mt (n + 1)) = rowM f (mt n) ++ [[.mp [85, f, n]]] := by
 have : mt (n + 1) = mt n ++ [[]] := by simp [mt, List.replicate_succ']
 rw [this]
 simp [rowM, List.mapIdx_append, mt]
def a8m (R : List Nat) : List (List FV) := R.mapIdx fun f n => [.sl [83, f] 1 0 n]
theorem c9t (R : List Nat) (n : Nat) : a8m (R ++ [n]) = a8m R ++ [[.sl [83, R.length] 1 0 n]] := by simp [a8m, List.mapIdx_append]
theorem a3f (R : List Nat) : (a8m R).length = R.length := by simp [a8m]
theorem a4i (n : Nat) : (mt n).length = n := by simp [mt]
theorem b9p (R : List Nat) : a8m R = rowR (R.map mt) := by
 refine List.ext_getElem (by simp [a8m, rowR]) fun i h1 h2 => ?_
 simp [a8m, rowR, mt]
theorem c2z (r : List (List Int)) : (rowC r).flatten.all FV.cellV = true := by
 rw [List.all_eq_true]
 intro v hv
 obtain ⟨q, hq, hv⟩ := List.mem_flatten.1 hv
 obtain ⟨i, hi, rfl⟩ := List.getElem_of_mem hq
 rw [a2a hi] at hv
 simp at hv; subst hv; rfl
theorem c2y (f : Nat) (r : List (List Int)) : (rowM f r).flatten.all FV.cellV = true := by
 rw [List.all_eq_true]
 intro v hv
 obtain ⟨q, hq, hv⟩ := List.mem_flatten.1 hv
 obtain ⟨i, hi, rfl⟩ := List.getElem_of_mem hq
 rw [a1z hi] at hv
 simp at hv; subst hv; rfl
theorem b8u (R : List Nat) : (a8m R).flatten.all FV.cellV = true := by
 rw [b9p, List.all_eq_true]
 intro v hv
 obtain ⟨q, hq, hv⟩ := List.mem_flatten.1 hv
 obtain ⟨i, hi, rfl⟩ := List.getElem_of_mem hq
 rw [a1y hi] at hv
 simp at hv; subst hv; rfl
theorem b2g {U : FM.Loc -> Prop} : ∀ {xs : List (List FV)}, (∀ r ∈ xs, nins U r) -> a2u U xs
 | [], _ => trivial
 | r :: xs, h => ⟨h r (by simp), b2g fun r hr => h r (by simp [hr])⟩
theorem e2y {U : FM.Loc -> Prop} (n : Nat) (h : ∀ g, g < n -> U [86, g]) : a2u U (rowC (mt n)) := b2g fun r hr => by
 obtain ⟨i, hi, rfl⟩ := List.getElem_of_mem hr
 rw [a2a hi]
 rw [a0s, a4i] at hi
 exact ⟨h i hi, trivial⟩
theorem d2n {U : FM.Loc -> Prop} (f n : Nat) (h : ∀ g, g < n -> U [85, f, g]) : a2u U (rowM f (mt n)) := b2g fun r hr => by
 obtain ⟨i, hi, rfl⟩ := List.getElem_of_mem hr
 rw [a1z hi]
 rw [a0r, a4i] at hi
 exact ⟨h i hi, trivial⟩
theorem d2m {U : FM.Loc -> Prop} (R : List Nat) (h : ∀ g, g < R.length -> U [83, g]) : a2u U (a8m R) := b2g fun r hr => by
 rw [b9p] at hr
 obtain ⟨i, hi, rfl⟩ := List.getElem_of_mem hr
 rw [a1y hi]
 rw [a0u, List.length_map] at hi
 exact ⟨h i hi, trivial⟩
section
variable {β : FM.Loc -> Option FM.Loc} {U : FM.Loc -> Prop}
theorem a8n {n : Nat} (h : ∀ g, g < n -> β [86, g] = some [86, g]) : renss β (rowC (mt n)) = rowC (mt n) := b2a (U := fun l => ∃ g, g < n /\ l = [86, g]) (e2y n fun g hg => ⟨g, hg, rfl⟩) fun l ⟨g, hg, e⟩ => by rw [e]; exact h g hg
theorem e0p {n : Nat} (h : ∀ g, g < n -> β [86, g] = some [86, g]) (hU : ∀ g, g < n -> U [86, g]) : a6v β U (rowC (mt n)) := b2l (U := fun l => ∃ g, g < n /\ l = [86, g]) (e2y n fun g hg => ⟨g, hg, rfl⟩) (fun l ⟨g, hg, e⟩ => by rw [e]; exact h g hg) fun l ⟨g, hg, e⟩ => by rw [e]; exact hU g hg
theorem c6m {f n : Nat} (h : ∀ g, g < n -> β [85, f, g] = some [85, f, g]) : renss β (rowM f (mt n)) = rowM f (mt n) := b2a (U := fun l => ∃ g, g < n /\ l = [85, f, g]) (d2n f n fun g hg => ⟨g, hg, rfl⟩) fun l ⟨g, hg, e⟩ => by rw [e]; exact h g hg
theorem e0o {f n : Nat} (h : ∀ g, g < n -> β [85, f, g] = some [85, f, g]) (hU : ∀ g, g < n -> U [85, f, g]) : a6v β U (rowM f (mt n)) := b2l (U := fun l => ∃ g, g < n /\ l = [85, f, g]) (d2n f n fun g hg => ⟨g, hg, rfl⟩) (fun l ⟨g, hg, e⟩ => by rw [e]; exact h g hg) fun l ⟨g, hg, e⟩ => by rw [e]; exact hU g hg
theorem b2b {R : List Nat} (h : ∀ g, g < R.length -> β [83, g] = some [83, g]) : renss β (a8m R) = a8m R := b2a (U := fun l => ∃ g, g < R.length /\ l = [83, g]) (d2m R fun g hg => ⟨g, hg, rfl⟩) fun l ⟨g, hg, e⟩ => by rw [e]; exact h g hg
theorem d4q {R : List Nat} (h : ∀ g, g < R.length -> β [83, g] = some [83, g]) (hU : ∀ g, g < R.length -> U [83, g]) : a6v β U (a8m R) := b2l (U := fun l => ∃ g, g < R.length /\ l = [83, g]) (d2m R fun g hg => ⟨g, hg, rfl⟩) (fun l ⟨g, hg, e⟩ => by rw [e]; exact h g hg) fun l ⟨g, hg, e⟩ => by rw [e]; exact hU g hg
end
theorem a6b (l : List (Int × Int)) : nle (sitE l) = true := by
 unfold nle
 rw [List.all_eq_true]
 intro e he
 rw [sitE, List.mem_mapIdx] at he
 obtain ⟨i, h, rfl⟩ := he
 rfl
structure BsS (B : Heap) : Prop where
 fr : ∀ k r, k <= 6 -> B (k :: r) = none
 f8 : ∀ k r, 81 <= k -> k <= 88 -> B (k :: r) = none
 clo : Clo B
theorem b8s {B : Heap} (hB : BsS B) (c : Nat) (R : List Nat) (r : Nat) : Clo (ext B (MA c R r)) := fun l o hl => by
 rw [a3y] at hl
 have up : ∀ k, MA c R r k ≠ none -> ext B (MA c R r) k ≠ none := fun k hk => by
  obtain ⟨o', ho'⟩ := Option.ne_none_iff_exists'.1 hk
  rw [a7w ho']; simp
 cases e : MA c R r l with
 | none =>
   rw [e] at hl
   refine a3k (fun q hq => ?_) (hB.clo l o hl)
   rw [a3y]
   cases MA c R r q <;> simp [hq]
 | some o' =>
   rw [e] at hl
   obtain rfl := sI_ hl
   unfold MA at e
   split at e
   . rename_i f
     rw [oM_] at e
     obtain ⟨n, hn, rfl⟩ := e
     exact d2n f n fun g hg => up _ (by rw [e2k, if_pos (.inl (by simp [gD_, hn, hg]))]; simp)
   . split at e
     . obtain rfl := sI_ e; exact a1o _ _
     . cases e
   . split at e
     . obtain rfl := sI_ e; exact a1o _ _
     . cases e
   . cases e
theorem c3h {B : Heap} (hB : BsS B) (c : Nat) (R : List Nat) (r : Nat) : Bs (inH (HP [] B noH)) 6 B (MA c R r) :=
 ⟨hB.fr, fun k s hk => a9g c R r k s (by omega), b8s hB c R r, fun l hl => by
  have hl : HP [] B noH l ≠ none := hl
  have e : HP [] B noH l = B l := rfl
  rw [e] at hl
  rw [a3y]
  cases MA c R r l <;> simp [hl]⟩
theorem c1f {B : Heap} (hB : BsS B) (c : Nat) (R : List Nat) (r : Nat) (s : List Nat) : ext B (MA c R r) (6 :: s) = none := a0w.2 ⟨a9g c R r 6 s (by decide), hB.fr 6 s (by decide)⟩
theorem d7w {L : List (FM.Loc × FO)} {B A : Heap} {nm : FM.Loc} {ob : FO} (h : A nm = none) : HP ((nm, ob) :: L) B A = HP L B (upd A nm ob) := by
 funext k
 unfold HP
 rw [a3y, a3y]
 by_cases e : k = nm
 . subst e; simp [h, updL, upd]
 . simp [updL, upd, e]
theorem c0n {c : Cfg} {σ : Type} {j : Nat} {vs0 vs : List FV} {tm0 tm : Asg} {L0 L : List (FM.Loc × FO)} {B A : Heap} {ix : List Nat} {sv : σ -> List (Nat × FV)} {kt : List Nat} {st : σ -> Asg} {dl : List FM.Loc} {sh : σ -> List (FM.Loc × FO)} {fA : σ -> Heap} {x : σ} (nm k0 : FM.Loc) (ob : FO) (b : List (FM.Loc × Option FM.Loc)) (hfr : ∀ s, ext B A (j :: s) = none) (hnm : ext B A nm = none) (hcl : Clo (ext B A)) (hc : ∀ l, c.L l -> ext B A l ≠ none)
 (hfA : fA x = upd A nm ob) (hn : hdN j ((a5k (sh x) (delL dl L0)).map Prod.fst ++ k0 :: b.map Prod.fst ++ b.filterMap Prod.snd) = true) (hl : hdN j (L.map Prod.fst) = true)
 (hinj : injB (bk ((nm, some k0) :: b)) (nm :: (a5k (sh x) (delL dl L0)).map Prod.fst) = true)
 (hv : a9d (bk ((nm, some k0) :: b)) (inH (HP ((nm, ob) :: a5k (sh x) (delL dl L0)) B A)) (setV (sv x) vs0) vs)
 (ht : simT (bk ((nm, some k0) :: b)) (inH (HP ((nm, ob) :: a5k (sh x) (delL dl L0)) B A)) vs.length tm (st x ++ a8g kt tm0))
 (hH : simH (bk ((nm, some k0) :: b)) (inH (HP ((nm, ob) :: a5k (sh x) (delL dl L0)) B A)) (HP L B A) ((nm, ob) :: a5k (sh x) (delL dl L0))) : Gk c (lpS vs0 tm0 L0 B sv kt st dl sh fA x) ⟨vs, tm, HP L B A, ix⟩ := by
 have hd := a7m hn
 refine gk5 (L1 := (nm, ob) :: a5k (sh x) (delL dl L0)) ((nm, some k0) :: b) ?_ hinj (fun n hn' => ?_) (fun p hp => ?_) hcl hc hv ht hH
 . rw [hfA]; exact d7w (a0w.1 hnm).1
 . simp only [List.map_cons, List.filterMap_cons, List.mem_append, List.mem_cons] at hn'
   rcases hn' with (((rfl | h) | (rfl | h)) | (e0 | h))
   . exact hnm
   . obtain ⟨r, rfl⟩ := hd n (List.mem_append_left _ (List.mem_append_left _ h)); exact hfr r
   . exact hnm
   . obtain ⟨r, rfl⟩ := hd n (List.mem_append_left _ (List.mem_append_right _ (List.mem_cons_of_mem _ h))); exact hfr r
   . obtain ⟨r, rfl⟩ := hd n (by rw [e0]; exact List.mem_append_left _ (List.mem_append_right _ List.mem_cons_self)); exact hfr r
   . obtain ⟨r, rfl⟩ := hd n (List.mem_append_right _ h); exact hfr r
 . obtain ⟨r, hr⟩ := a7m hl p.1 (List.mem_map.2 ⟨p, hp, rfl⟩)
   rw [hr]; exact hfr r
def GA (f : Nat) (g : List (BitVec 64)) : Heap := upd noH [97, f] (.cells 68 1 (u64s g))
theorem b7v (f : Nat) (g : List (BitVec 64)) : GA f g [97, f] = some (.cells 68 1 (u64s g)) := by simp [GA, upd]
theorem b7l (f : Nat) (g : List (BitVec 64)) {k : Nat} {r : List Nat} (h : k ≠ 97) : GA f g (k :: r) = none := by simp [GA, upd, noH, h]
theorem e4l (f : Nat) (g g' : List (BitVec 64)) : upd (GA f g) [97, f] (.cells 68 1 (u64s g')) = GA f g' := by
 funext k
 by_cases e : k = [97, f] <;> simp [GA, upd, e]
theorem c5g (L : List (FM.Loc × FO)) (B : Heap) (f : Nat) (g : List (BitVec 64)) : HP L B (GA f g) [97, f] = some (.cells 68 1 (u64s g)) := by unfold HP ext; rw [b7v]
theorem f5k (L : List (FM.Loc × FO)) (B : Heap) (f : Nat) (g g' : List (BitVec 64)) : upd (HP L B (GA f g)) [97, f] (.cells 68 1 (u64s g')) = HP L B (GA f g') := by
 unfold HP; rw [<- b0u, e4l]
theorem f5n {f : Nat} (g g' : List (BitVec 64)) (l : FM.Loc) (h : GA f g l ≠ none) : GA f g' l ≠ none := by
 by_cases e : l = [97, f]
 . subst e; rw [b7v]; simp
 . exfalso; apply h; simp [GA, upd, e, noH]
structure BsG (j f : Nat) (B : Heap) : Prop where
 fr : ∀ k r, k <= j -> B (k :: r) = none
 clo : ∀ g, Clo (ext B (GA f g))
theorem BsG.bs {j f : Nat} {B : Heap} (h : BsG j f B) (hj : j < 97) (g0 g : List (BitVec 64)) : Bs (inH (HP [] B (GA f g0))) j B (GA f g) := ⟨h.fr, fun k r hk => b7l f g (by omega), h.clo g, fun l hl hn => by
 rw [a0w] at hn
 refine hl (a0w.2 ⟨?_, hn.2⟩)
 cases e : GA f g0 l with
 | none => rfl
 | some o => exact absurd hn.1 (f5n g0 g l (by simp [e]))⟩
theorem BsG.toH {j f : Nat} {B : Heap} (h : BsG j f B) (hj : j < 97) (g : List (BitVec 64)) : BsH j (ext B (GA f g)) := ⟨fun k r hk => a0w.2 ⟨b7l f g (by omega), h.fr k r hk⟩, h.clo g⟩
theorem BsG.mono {i j f : Nat} {B : Heap} (h : BsG j f B) (hi : i <= j) : BsG i f B := ⟨fun k r hk => h.fr k r (by omega), h.clo⟩
theorem BsG.call {j f : Nat} {B : Heap} (h : BsG j f B) (i : Nat) {L : List (FM.Loc × FO)} (hi : i < j) (hj : j < 97) (hl : hdN j (L.map Prod.fst) = true) (ho : ∀ g, ninL (inH (HP L B (GA f g))) L) : BsG i f (updL L B) :=
 ⟨((h.bs hj [] []).call (A := GA f []) i hi hl (ho []) fun _ h => h).fb, fun g => ((h.bs hj [] g).call (A := GA f g) i hi hl (ho g) fun _ h => h).clo⟩
def usL (c : List Ins) : List Int := (List.range c.length).map fun i => usC c i
theorem a3b (c : List Ins) : (usL c).length = c.length := by simp [usL]
theorem d1d {c : List Ins} {i : Nat} (h : i < (usL c).length) : (usL c)[i] = usC c i := by simp [usL]
theorem e8k (o : BitVec 64) (s : List (BitVec 64) × Bool) (w : Int) : (edB o s w).1.length = s.1.length := by
 unfold edB
 split
 . rfl
 . split
   . rfl
   . simp
theorem c0v (o : BitVec 64) : ∀ (l : List Int) (s : List (BitVec 64) × Bool), (edsB o s l).1.length = s.1.length
 | [], _ => rfl
 | w :: l, s => by
   have := c0v o l (edB o s w)
   rw [e8k] at this
   exact this
theorem e6n (c : List Ins) (s : List (BitVec 64) × Bool) (i : Nat) : (pcC c s i).1.length = s.1.length := by
 unfold pcC
 split
 . simp
 . unfold stR
   split
   . rfl
   . exact c0v _ _ _
theorem c6j (c : List Ins) (a : Nat) (g : List (BitVec 64)) : ∀ k, (rndC c a g k).1.length = g.length
 | 0 => rfl
 | k + 1 => by rw [rndC, e6n, c6j c a g k]
theorem f4d {o : BitVec 64} {g : List (BitVec 64)} {m : Bool} {w : Int} (h : w.toNat < g.length) : edB o (g, m) w = if g[w.toNat] &&& o = g[w.toNat] then (g, m) else (g.set w.toNat (g[w.toNat] &&& o), true) := by
 unfold edB
 simp only [gE_ h]
theorem gD {g : List (BitVec 64)} {i : Nat} (h : i < g.length) : g.getD i 0 = g[i] := by rw [gD_, gE_ h]; rfl
theorem c8o {P : Program} {c : Cfg} {ops : Array Oper} {o : Oper} {rest : List Oper} {K : Fs -> Prop} {s : Fs} {f : FuncId} {Ar : List FV} {r : FV} {L : List (FM.Loc × FO)} {B A : Heap} (hs : s.H = HP L B A) (hfc : FC P c.G f Ar (HP [] (ext (updL L B) A) noH) r (HP [] (ext (updL L B) A) noH)) (h : StK P c ops rest K (putD c o r s)) : b0z P c ops o rest K s f true Ar := by
 refine ⟨rfl, r, HP L B A, by rw [hs]; exact hfc, ?_⟩
 rw [<- hs]
 exact h
theorem e2w (fs : List FnD) : ∀ i, i <= fs.length -> ((sitP fs i).drop 1).Nodup /\ ∀ s ∈ (sitP fs i).drop 1, s.1 < (i : Int)
 | 0, _ => by simp [sitP]
 | i + 1, h => by
   obtain ⟨h1, h2⟩ := e2w fs i (by omega)
   have hpos := c6g fs i
   rw [c6f (show i < fs.length by omega), List.drop_append_of_le_length (by omega)]
   have hc : ∀ s ∈ sitC i fs[i].code fs[i].code.length, s.1 = (i : Int) := fun s hs => by
    simp only [sitC, List.mem_map] at hs
    obtain ⟨k, _, rfl⟩ := hs
    rfl
   refine ⟨?_, fun s hs => ?_⟩
   . rw [List.nodup_append]
     refine ⟨h1, ?_, fun a ha b hb e => ?_⟩
     . unfold sitC
       rw [List.nodup_iff_pairwise_ne, List.pairwise_map]
       refine ((List.nodup_iff_pairwise_ne.1 List.nodup_range).filter _).imp ?_
       intro a b hab e
       simp only [Prod.mk.injEq] at e
       exact hab (by omega)
     . have := h2 a ha
       have := hc b hb
       rw [e] at *
       omega
   . rcases List.mem_append.1 hs with hs | hs
     . have := h2 s hs; omega
     . have := hc s hs; omega
theorem d8y {p : Pg} {i : Nat} (hi : i < (a0l p).length) (h0 : 0 < i) : (a0l p)[i] ∉ ((a0l p).take i).drop 1 := fun hm => by
 have hnd := (e2w p.funcs p.funcs.length (nr_ _)).1
 have hnd : ((a0l p).drop 1).Nodup := hnd
 obtain ⟨j, hj, e⟩ := List.getElem_of_mem hm
 rw [List.length_drop, List.length_take] at hj
 rw [List.getElem_drop, List.getElem_take] at e
 have := (List.pairwise_iff_getElem.1 (List.nodup_iff_pairwise_ne.1 hnd)) j (i - 1) (by simp; omega) (by simp; omega) (by omega)
 rw [List.getElem_drop, List.getElem_drop] at this
 apply this
 rw [e]
 congr 1
 omega
theorem d9p {H : Heap} {nm : FM.Loc} {l : List (Int × Int)} {c : Nat} (h : H nm = some (.map (sitE l) c)) (hc : c = l.length - 1) (hl : 0 < l.length) {s : Int × Int} (hn : s ∉ l.drop 1) {k : Int} (hk : k = (l.length : Int)) : b1f Tryz.prog H 134 (.mp nm) (.agg [.int .i64 s.1, .int .i64 s.2]) (.int .i64 k) = some ([(nm, .map (sitE (l ++ [s])) l.length)], .undef) := by
 have hko : a8q Tryz.prog 98 (.agg [.int .i64 s.1, .int .i64 s.2]) = true := by simp [a8q, c0t, c0s]
 have hf := e8d s.1 s.2 1 (l.drop 1) (fun i => i) 0
 have hx : (l.drop 1).findIdx? (fun y => decide (y = (s.1, s.2))) = none := by
  rw [List.findIdx?_eq_none_iff]
  intro y hy
  simp only [decide_eq_false_iff_not]
  rintro rfl
  exact hn hy
 rw [hx] at hf
 have e1 : ((1 : Nat) : Int) = 1 := rfl
 rw [e1] at hf
 have hf' : a8a Tryz.prog 98 (.agg [.int .i64 s.1, .int .i64 s.2]) (sitE l) 0 = some none := hf
 have hsn : sitE (l ++ [s]) = sitE l ++ [(.agg [.int .i64 s.1, .int .i64 s.2], .int .i64 k, c)] := by
  unfold sitE
  rw [List.drop_append_of_le_length (by omega), List.mapIdx_append]
  simp only [List.mapIdx_cons, List.mapIdx_nil, List.length_drop]
  congr 3
  subst hk hc
  have : ((0 + (l.length - 1) : Nat) : Int) + 1 = (l.length : Int) := by omega
  rw [this]
  simp
 simp only [b1f, c2u, h, hko, if_true, hf', hsn]
 have : c + 1 = l.length := by omega
 rw [this]
section
variable {β : FM.Loc -> Option FM.Loc} {L : List (FM.Loc × FO)} {B : Heap} {c : Nat} {R : List Nat} {r : Nat}
theorem a7l {n : Nat} (hn : n <= c) (h : ∀ g, g < n -> β [86, g] = some [86, g]) : a6v β (inH (HP L B (MA c R r))) (rowC (mt n)) := e0p h fun g hg => a2n (a8k (ob := mapO []) (by rw [e2j, if_pos (by omega)]))
theorem c2p {f n : Nat} (hn : (f = R.length /\ n <= r) \/ n <= R.getD f 0) (h : ∀ g, g < n -> β [85, f, g] = some [85, f, g]) : a6v β (inH (HP L B (MA c R r))) (rowM f (mt n)) := e0o h fun g hg => a2n (a8k (ob := mapO []) (by rw [e2k, if_pos (by omega)]))
theorem b0q (h : ∀ g, g < R.length -> β [83, g] = some [83, g]) : a6v β (inH (HP L B (MA c R r))) (a8m R) := d4q h fun g hg => a2n (a8k (ob := .cells 141 1 (rowM g (mt R[g]))) (by rw [e9w, gE_ hg]; rfl))
end
theorem f5i {c : Nat} {R : List Nat} {r : Nat} (k : Nat) (hk : k = 88) {s : List Nat} : MA c R r (k :: s) = none := by
 unfold MA
 split <;> first | rfl | (rename_i h; simp at h; omega)
def Rf (p : Pg) (f : Nat) : List Nat := (p.funcs.take f).map fun d => d.regs.toNat
theorem Rf_0 (p : Pg) : Rf p 0 = [] := rfl
theorem e4i {p : Pg} {f : Nat} (h : f <= p.funcs.length) : (Rf p f).length = f := by simp [Rf]; omega
theorem Rf_s {p : Pg} {f nr : Nat} (h : f < p.funcs.length) (hnr : p.funcs[f].regs = (nr : Int)) : Rf p (f + 1) = Rf p f ++ [nr] := by
 unfold Rf
 rw [List.take_add_one, gE_ h, List.map_append]
 congr 1
 simp [hnr]
theorem Rf_g {p : Pg} {f : Nat} (h : f <= p.funcs.length) : (Rf p f).getD f 0 = 0 := by
 rw [gD_, gn_ (by rw [e4i h]; omega)]; rfl
theorem f9x {p : Pg} {B : Heap} (hp : VOk p) (hB : BsS B) : HP [([81], .cells 138 8 [anR p]), ([82], .cells 136 1 (a8m (Rf p p.funcs.length))), ([84], .cells 141 1 (rowC (mt (a0l p).length))), ([87], .map (sitE (a0l p)) ((a0l p).length - 1))] B (MA (a0l p).length (Rf p p.funcs.length) 0) = HP [] B (MN p (a4m p)) := by
 have hR : Rf p p.funcs.length = p.funcs.map fun d => d.regs.toNat := by simp [Rf]
 have hRm : (a4m p).regs = (Rf p p.funcs.length).map mt := by
  rw [hR, List.map_map]; rfl
 have hC : (a4m p).cells = mt (a0l p).length := rfl
 funext k
 unfold HP
 rw [a3y, a3y]
 by_cases e88 : k = [88]
 . subst e88
   have e1 : MN p (a4m p) [88] = none := rfl
   rw [e1, f5i 88 (by decide)]
   rfl
 rw [b7u e88]
 by_cases e81 : k = [81]
 . subst e81; rw [a9g _ _ _ 81 _ (by decide), e9v]; simp [updL, upd]
 by_cases e82 : k = [82]
 . subst e82; rw [a9g _ _ _ 82 _ (by decide), d7u, hRm, <- b9p]; simp [updL, upd]
 by_cases e84 : k = [84]
 . subst e84; rw [b3o, d7t, hC]; simp [updL, upd]
 by_cases e87 : k = [87]
 . subst e87; rw [b3n, e2f]; simp [updL, upd]
 have hlow : updL [([81], FO.cells 138 8 [anR p]), ([82], .cells 136 1 (a8m (Rf p p.funcs.length))), ([84], .cells 141 1 (rowC (mt (a0l p).length))), ([87], .map (sitE (a0l p)) ((a0l p).length - 1))] B k = updL [] B k := by simp [updL, upd, e81, e82, e84, e87]
 rw [hlow]
 have key : MA (a0l p).length (Rf p p.funcs.length) 0 k = MF p (a4m p) false k := by
  unfold MA MF
  split
  . rename_i f
    simp only [hRm, List.getElem?_map, Option.map_map]; rfl
  . rename_i f i
    simp only [hRm, List.getElem?_map]
    by_cases h1 : f < (Rf p p.funcs.length).length
    . simp only [gE_ h1, Option.map_some, Option.bind_some, gD_, gS_]
      by_cases h2 : i < (Rf p p.funcs.length)[f]
      . rw [if_pos (.inl h2)]
        simp [mt, h2]
      . rw [if_neg (by omega)]
        simp [mt, h2]
    . simp only [gn_ (Nat.le_of_not_lt h1), gD_]
      simp
  . rename_i o
    rw [hC]
    by_cases h1 : o < (a0l p).length
    . simp [mt, h1]
    . simp [mt, h1]
  . split <;> first | rfl | (rename_i h; simp_all)
 rw [key]
theorem gk5i {c : Cfg} {vs1 vs : List FV} {tm1 tm : Asg} {L1 L : List (FM.Loc × FO)} {B A : Heap} {H1 : Heap} {ix1 ix : List Nat} (b : List (FM.Loc × Option FM.Loc)) (hH1 : HP L1 B A = H1) (hinj : injB (bk b) (L1.map Prod.fst) = true) (hN : ∀ n ∈ L1.map Prod.fst ++ b.map Prod.fst ++ b.filterMap Prod.snd, ext B A n = none) (hl : ∀ p ∈ L, ext B A p.1 = none)
 (hcl : Clo (ext B A)) (hc : ∀ l, c.L l -> ext B A l ≠ none) (hv : a9d (bk b) (inH (HP L1 B A)) vs1 vs) (ht : simT (bk b) (inH (HP L1 B A)) vs.length tm tm1) (hH : simH (bk b) (inH (HP L1 B A)) (HP L B A) L1) : Gk c (Fs.mk vs1 tm1 H1 ix1) ⟨vs, tm, HP L B A, ix⟩ := gk5 b hH1 hinj hN hl hcl hc hv ht hH
theorem d8u {p : Pg} {B : Heap} (l : FM.Loc) (h : HP [] B noH l ≠ none) : HP [] B (MN p (a4m p)) l ≠ none := fun e => by
 obtain ⟨_, h2⟩ := a3t.1 e
 exact h (a3t.2 ⟨rfl, h2⟩)
theorem a5m {p : Pg} (hp : VOk p) : Gv.Form p (a4m p) := by
 refine ⟨rfl, by simp [a4m], by simp [a4m], fun f h h' => ?_, fun f h s hs => ?_, fun s hs => ?_⟩
 . have := (hp.regs (gm_ h')).p0
   have := (hp.regs (gm_ h')).p1
   simp [a4m]; omega
 . simp [a4m] at hs
   rw [hs.2]
   exact ⟨List.Pairwise.nil, by simp⟩
 . simp [a4m] at hs
   rw [hs.2]
   exact ⟨List.Pairwise.nil, by simp⟩
theorem d6u {p : Pg} (hp : VOk p) {B : Heap} (hB : BsS B) : Clo (HP [] B (MN p (a4m p))) := by
 show Clo (ext B (MN p (a4m p)))
 exact d6v (a5m hp).shp fun l o h => a3k (fun q hq => by rw [a3y]; cases MN p (a4m p) q <;> simp [hq]) (hB.clo l o h)
theorem a9q : sitE [] = [] := rfl
theorem a9s : rowC (mt 0) = [] := rfl
theorem a9r (f : Nat) : rowM f (mt 0) = [] := rfl
theorem a7i : a8m [] = [] := rfl
theorem a9p {l : List (Int × Int)} : sitE (l.take 1) = [] := by cases l <;> rfl
theorem e5e {p : Pg} {f : Nat} {nm : ByteArray} {pa rg : Int} {c : List Ins} (hF : FOk p f nm pa rg c) (hu64 : ∀ i, usC c i < 64) {B : Heap} (hB : BsG 3 f B) (hS : B [95, f] = some (.cells 72 11 [[.list 4 (fns p.funcs), .list 2 (gbs p.globals), .list 1 (lays p.layouts), .int .i64 p.main, .int .i64 f, .str nm, .int .i64 pa, .int .i64 rg, .list 5 (inss c), .sl [96, f] 1 0 c.length, .sl [97, f] 1 0 c.length]])) (hu : B [96, f] = some (.cells 3 1 (ints (usL c)))) {g : List (BitVec 64)} (hgl : g.length = c.length) {a n e1 : Nat} (hane : a + n = e1) (han : e1 <= c.length) {nb : List Int} : FC Tryz.prog Gl 83 [.ptr [95, f] 11 0 0, .agg [.int .i64 (a : Int), .int .i64 (e1 : Int), .list 1 (ints nb)]] (HP [] B (GA f g)) (.bool (rndC c a g n).2) (HP [] B (GA f (rndC c a g n).1)) := by
 have hc := hF.hc
 have h1000 := hc.n1000
 have hfr : ∀ r, B (3 :: r) = none := fun r => hB.fr 3 r (nr_ _)
 have hB2 : BsG 2 f (updL [([3, 3], FO.cells 87 3 [[.int .i64 (a : Int), .int .i64 (e1 : Int), .list 1 (ints nb)]])] B) := hB.call 2 (by decide) (by decide) rfl fun g => ⟨⟨⟨trivial, trivial, a0a nb, trivial⟩, trivial⟩, trivial⟩
 refine a5n (res := [.tmp 4]) 11 84 [53, 52, 51] (fun d ix => 3 :: d :: ix) (fn := Tryz.f83) (by kernel_rfl) (by rfl) (by rfl) (by rfl) (by simp) (by decide) ?_
 repeat' first
  | ((with_reducible refine c2j (j := 3) (hB.bs (by decide) _ _) ?_ ?_ ?_ ?_); (iterate 2 (focus rfl)); (focus (first | rfl | (simp [*]; done))); focus (first | trivial | (simp [nin, nins, a3n, inH, HPXB]; done)))
  | ((with_reducible refine a1a ?_); refine a1q (σ := {y : Nat × Nat // y.1 <= n /\ a + y.1 = y.2}) (fun y => [(5, .bool (rndC c a g y.1.1).2), (6, .int .i64 (y.1.2 : Int)), (7, .undef), (9, .undef), (10, .undef)]) [] (fun y => []) [] (fun y => []) (fun y => GA f (rndC c a g y.1.1).1) (fun y => n - y.1.1) ⟨(0, a), by simp⟩ (gk3 (j := 3) [] (hB.bs (by decide) _ _) ?_ ?_ ?_ ?_ ?_ ?_ ?_) ?_; (iterate 7 (focus (first | rfl | (simp [LPXB, *, SIMB, hdN, injB, rndC, b7l, b7v, c5g]; done)))); rintro ⟨⟨k, i⟩, hk, hi⟩; simp only [lpS, LPXB]; (try dsimp only at hk hi); have hGl := c6j c a g k; rw [hgl] at hGl; rcases a0z hk with hlt | ⟨hlt, e⟩; rotate_left; subst e; have hie : i = e1 := (by omega); subst hie; rotate_left; have hnx : rndC c a g (k + 1) = pcC c (rndC c a g k) i := (by rw [<- hi]; rfl); have hlt2 : (i : Int) < (e1 : Int) := (by omega); have hil : i < c.length := (by omega); obtain ⟨⟨G, M⟩, hGM⟩ : ∃ s, rndC c a g k = s := ⟨_, rfl⟩; simp only [hGM] at hGl hnx ⊢; have wi1 : IntKind.wrap .i64 ((i : Int) + 1) = (i : Int) + 1 := (by rw [IntKind.wrap_i64]; omega); have hiG : i < G.length := (by omega); by_cases o51 : c[i].op = 51; obtain ⟨m, rfl⟩ : ∃ m, i = m + 1 := ⟨i - 1, by rcases Nat.eq_zero_or_pos i with e0 | h0; subst e0; exact absurd o51 (hc.h0 hil); omega⟩; have hmG : m < G.length := (by omega); have hn2 : rndC c a g (k + 1) = (G.set (m + 1) G[m], M) := (by rw [hnx, pcC, opA hil, if_pos o51, Nat.add_sub_cancel, gD hmG]); have hmd := c5s G (m + 1) G[m] hiG; obtain ⟨x, hx⟩ : ∃ x, G[m] = x := ⟨_, rfl⟩; rw [hx] at hmd hn2; clear hnx; have wm : IntKind.wrap .i64 (m : Int) = (m : Int) := (by rw [IntKind.wrap_i64]; omega); have p1 : (0 : Int) <= (m : Int) + 1 := (by omega); have p2 : (0 : Int) < (m : Int) + 1 := (by omega); have wm2 : IntKind.wrap .i64 ((m : Int) + 1 + 1) = (m : Int) + 1 + 1 := (by rw [IntKind.wrap_i64]; omega); have p5 : m < c.length := (by omega); have hlt3 : (m : Int) + 1 < (e1 : Int) := (by omega); have p3 : (m : Int) + 1 < (c.length : Int) := (by omega); have p4 : (m : Int) < (c.length : Int) := (by omega); rotate_left; obtain ⟨o, ho⟩ : ∃ o, aftB c[i] (usC c i) G[i] = o := ⟨_, rfl⟩; have hn2 : rndC c a g (k + 1) = edsB o (G, M) (nx c i) := (by rw [hnx, pcC, opA hil, if_neg o51, e2v hil]; simp only [gD hiG, ho]); clear hnx; rotate_left)
  | ((with_reducible refine a1a ?_); refine a1q (σ := {q : Nat // q <= (nx c i).length}) (fun y => [(5, .bool (edsB o (G, M) ((nx c i).take y.1)).2), (9, .undef), (10, .undef)]) [52, 51] (fun y => [(53, .int .i64 (y.1 : Int))]) [] (fun y => []) (fun y => GA f (edsB o (G, M) ((nx c i).take y.1)).1) (fun y => (nx c i).length - y.1) ⟨0, by simp⟩ (gk3 (j := 3) [] (hB.bs (by decide) _ _) ?_ ?_ ?_ ?_ ?_ ?_ ?_) ?_; (iterate 7 (focus (first | rfl | (simp [LPXB, *, SIMB, hdN, injB, List.take_zero, edsB, List.foldl_nil, b7l, b7v, c5g]; done)))); rintro ⟨q, hq⟩; simp only [lpS, LPXB]; (try dsimp only at hq); have hl2 := c0v o ((nx c i).take q) (G, M); simp only [hGl] at hl2; rcases a0z hq with hlq | ⟨hlq, e⟩; rotate_left; subst e; rw [List.take_length] at hl2 ⊢; obtain ⟨⟨G2, M2⟩, hG2⟩ : ∃ s, edsB o (G, M) (nx c i) = s := ⟨_, rfl⟩; simp only [hG2] at hl2 hn2 ⊢; rotate_left; have wq := wli hlq (by have := b5w c i; omega); obtain ⟨v0, v1, _⟩ := a7y hc (gm_ hlq); have hte := d6j o (G, M) hlq; obtain ⟨⟨G2, M2⟩, hG2⟩ : ∃ s, edsB o (G, M) ((nx c i).take q) = s := ⟨_, rfl⟩; simp only [hG2] at hl2 hte ⊢; have v2 : (nx c i)[q] < (c.length : Int) := (by omega); have v3 : ((nx c i)[q]).toNat < G2.length := (by omega); rw [f4d v3] at hte; obtain ⟨x, hx⟩ : ∃ x, G2[((nx c i)[q]).toNat] = x := ⟨_, rfl⟩; rw [hx] at hte; obtain ⟨z, hz⟩ : ∃ z, x &&& o = z := ⟨_, rfl⟩; rw [hz] at hte; have hra := b9s x o; rw [hz] at hra; simp at hra; have hmd := c5s G2 ((nx c i)[q]).toNat z v3; by_cases hzx : z = x; subst hzx; rw [if_pos rfl] at hte; rotate_left; rw [if_neg hzx] at hte; have hzn : ¬ z.toNat = x.toNat := (fun e => hzx (BitVec.eq_of_toNat_eq e)); have hzi : ¬ (z.toNat : Int) = (x.toNat : Int) := (by omega); rotate_left)
  | ((with_reducible refine a0q ?_); refine a1b (⟨q + 1, by omega⟩) (gk3 (j := 3) [] (hB.bs (by decide) _ _) ?_ ?_ ?_ ?_ ?_ ?_ ?_) ?_; (iterate 7 (focus (first | rfl | (simp [LPXB, *, SIMB, hdN, injB, b7l, b7v, c5g]; done)))); (focus (dsimp only; omega)))
  | ((with_reducible refine a0q ?_); refine a1b (⟨(k + 1, i + 1), by omega, by omega⟩) (gk3 (j := 3) [] (hB.bs (by decide) _ _) ?_ ?_ ?_ ?_ ?_ ?_ ?_) ?_; (iterate 7 (focus (first | rfl | (simp [LPXB, *, SIMB, hdN, injB, b7l, b7v, c5g]; done)))); (focus (dsimp only; omega)))
  | ((with_reducible refine a0q ?_); refine a1b (⟨(k + 1, m + 1 + 1), by omega, by omega⟩) (gk3 (j := 3) [] (hB.bs (by decide) _ _) ?_ ?_ ?_ ?_ ?_ ?_ ?_) ?_; (iterate 7 (focus (first | rfl | (simp [LPXB, *, SIMB, hdN, injB, b7l, b7v, c5g]; done)))); (focus (dsimp only; omega)))
  | ((with_reducible refine cgB ?_); refine c8o rfl (e5l (g := G) hF (hB2.toH (by decide) G) ?_ ?_ ?_ (a3b c) hGl hil (d1d (by rw [a3b]; exact hil)) (hu64 i) rfl) ?_; (focus (simp [ext, b7l, a1p, a1v, hS]; done)); (focus (simp [ext, b7l, a1p, a1v, hu]; done)); (focus (simp [ext, b7v]; done)))
  | with_reducible first | refine a2j (id := 6) 14 a0y (by kernel_rfl) fun K hK => ?_ | refine stp ?_ | refine stpK ?_; intro K hK | refine stpC ?_; intro T E hT hE | refine stp2 ?_ ?_ <;> intro h | refine a0g rfl ?_ | refine a1e (b7x hc hil) (by simp [nls, nl, *, NLXB]) ?_ | refine hpc (b7x hc hil) (by simp [nls, nl, *, NLXB]) ?_ | refine a0j rfl (lbR rfl) a0i ?_ | refine a0j rfl (lbR rfl) (a0h (by simp [HPXB, hfr, b7l, ext, upd, *])) ?_ | refine a1g (by decide) (by kernel_rfl) ?_ | refine a0o (by decide) ?_ | refine Kont.go hK ?_; clear hK K | refine KT.go hT ?_; clear hT hE T E | refine KT.go hE ?_; clear hT hE T E
  | simp [*, -List.all_flatten, -List.all_eq_true, DEFB, LENB, asR, a1w, Ins.row, a1k, hS, hu, hfr, b7l, b7v, e4l, c5g, f5k, a1t, b5j, bRow]
theorem e5c {p : Pg} (hp : VOk p) {B : Heap} (hB : BsS B) : FC Tryz.prog Gl 89 [.agg [.list 4 (fns p.funcs), .list 2 (gbs p.globals), .list 1 (lays p.layouts), .int .i64 p.main]] (HP [] B noH) (.ptr [81] 8 0 0) (HP [] B (MN p (a4m p))) := by
 have hsv := a2t hp
 have hpos := a9o p
 have fB : ∀ r, B (6 :: r) = none := fun r => hB.fr 6 r (by decide)
 have hnf := hp.nf
 have hpt : ∀ (i : Nat) (hi : i < (a0l p).length) (h0 : 0 < i) (H : Heap), H [6, 12] = some (.map (sitE ((a0l p).take i)) (i - 1)) -> b1f Tryz.prog H 134 (.mp [6, 12]) (.agg [.int .i64 ((a0l p)[i]).1, .int .i64 ((a0l p)[i]).2]) (.int .i64 (i : Int)) = some ([([6, 12], .map (sitE ((a0l p).take i ++ [(a0l p)[i]])) ((a0l p).take i).length)], .undef) := fun i hi h0 H h => d9p h (by rw [List.length_take]; omega) (by rw [List.length_take]; omega) (d8y hi h0) (by rw [List.length_take]; omega)
 refine a5n (res := [.tmp 2]) 9 72 [20, 19, 18, 47, 46, 45, 53, 52] (fun d ix => 6 :: d :: ix) (fn := Tryz.f89) (by kernel_rfl) (by rfl) (by rfl) (by rfl) (by simp) (by decide) ?_
 repeat' first
  | (rw [hpt i hlt h _ (by simp [HPXB, bk_n, bk_c, fB, a1k, a1d, a9g, b3o, b3n, hdN, a1m, a6b, a0v, a0e, a0m, a0c, a1u, a0s, a0r, a3f, a4i, a9s, a9r, a7i, a9q, a9p, MA_0, a7j, a7k, List.take_zero])])
  | ((with_reducible refine a1a ?_); refine a1q (σ := {i : Nat // i <= (a0l p).length}) (fun y => [(4, .undef), (5, .undef)]) [19, 18] (fun y => [(20, .int .i64 (y.1 : Int))]) [] (fun y => [([6, 12], .map (sitE ((a0l p).take y.1)) (y.1 - 1)), ([6, 14], .cells 138 8 [[.list 4 (fns p.funcs), .list 2 (gbs p.globals), .list 1 (lays p.layouts), .int .i64 p.main, .list 2 (sits (a0l p)), .mp [6, 12], .nils, .sl [6, 1000] 1 0 y.1]]), ([6, 1000], .cells 141 1 (rowC (mt y.1)))]) (fun y => MA y.1 [] 0) (fun y => (a0l p).length - y.1) ⟨0, by simp⟩ (gk3i (j := 6) [([6, 1000], none)] (c3h hB _ _ _) ?_ ?_ ?_ ?_ ?_ ?_ ?_) ?_; (iterate 7 (focus (first | rfl | (simp [LPXB, *, SIMB, hdN, injB, bk_n, bk_c, fB, a1k, a1d, a9g, b3o, b3n, hdN, a1m, a6b, a0v, a0e, a0m, a0c, a1u, a0s, a0r, a3f, a4i, a9s, a9r, a7i, a9q, a9p, MA_0, a7j, a7k, List.take_zero]; done)))); rintro ⟨i, hi⟩; simp only [lpS, LPXB]; (try dsimp only at hi); rcases a0z hi with hlt | ⟨hlt, he⟩; rotate_left; subst i; rotate_left; have wi := wli hlt (by omega); have hs := szn (n := i + 1) (k := 8) (by omega) (by decide); have hs2 : i + 1 <= 4611686018427387904 := (by omega); have hcC := c2z (mt i))
  | ((with_reducible refine a0q ?_); refine a1b (⟨i + 1, by omega⟩) (c0n (j := 6) [86, i] [6, 38] (mapO []) [([6, 1000], some [6, 40])] (c1f hB _ _ _) (a0w.2 ⟨by simp [e2j], hB.f8 86 _ (by decide) (by decide)⟩) (b8s hB _ _ _) (fun l hl => (c3h hB _ _ _).lent l hl) (MA_c i [] 0).symm (by rfl) (by rfl) ?_ ?_ ?_ ?_) ?_; (focus (simp [injB, bk, LPXB]; done)); (iterate 3 (focus (have r1 := a8n (β := bk (([86, i], some [6, 38]) :: [([6, 1000], some [6, 40])])) (n := i) (fun g hg => by simp [bk]; try omega); simp only [bk] at r1; have n1 := fun (L : List (FM.Loc × FO)) => a7l (β := bk (([86, i], some [6, 38]) :: [([6, 1000], some [6, 40])])) (L := L) (B := B) (c := i) (R := []) (r := 0) (n := i) (by omega) (fun g hg => by simp [bk]; try omega); simp only [bk] at n1; have e1 := d2o i; simp [LPXB, *, SIMB, bk_n, bk_c, fB, a1k, a1d, a9g, b3o, b3n, hdN, a1m, a6b, a0v, a0e, a0m, a0c, a1u, a0s, a0r, a3f, a4i, a9s, a9r, a7i, a9q, a9p, MA_0, a7j, a7k, List.take_zero, a8c, a8i, mapO, b5b]; done))); (focus (dsimp only; omega)))
  | ((with_reducible refine a0q ?_); have h00 : i = 0 := (by omega); subst h00; refine a1b (⟨0 + 1, by omega⟩) (c0n (j := 6) [86, 0] [6, 38] (mapO []) [([6, 1000], some [6, 40])] (c1f hB _ _ _) (a0w.2 ⟨by simp [e2j], hB.f8 86 _ (by decide) (by decide)⟩) (b8s hB _ _ _) (fun l hl => (c3h hB _ _ _).lent l hl) (MA_c 0 [] 0).symm (by rfl) (by rfl) ?_ ?_ ?_ ?_) ?_; (focus (simp [injB, bk, LPXB]; done)); (iterate 3 (focus (have r1 := a8n (β := bk (([86, 0], some [6, 38]) :: [([6, 1000], some [6, 40])])) (n := 0) (fun g hg => by simp [bk]; try omega); simp only [bk] at r1; have n1 := fun (L : List (FM.Loc × FO)) => a7l (β := bk (([86, 0], some [6, 38]) :: [([6, 1000], some [6, 40])])) (L := L) (B := B) (c := 0) (R := []) (r := 0) (n := 0) (by omega) (fun g hg => by simp [bk]; try omega); simp only [bk] at n1; have e1 := d2o 0; simp [LPXB, *, SIMB, bk_n, bk_c, fB, a1k, a1d, a9g, b3o, b3n, hdN, a1m, a6b, a0v, a0e, a0m, a0c, a1u, a0s, a0r, a3f, a4i, a9s, a9r, a7i, a9q, a9p, MA_0, a7j, a7k, List.take_zero, a8c, a8i, mapO, b5b]; done))); (focus (dsimp only; omega)))
  | ((with_reducible refine a1a ?_); refine a1q (σ := {f : Nat // f <= p.funcs.length}) (fun y => [(7, .undef), (8, .undef)]) [46, 45] (fun y => [(47, .int .i64 (y.1 : Int))]) [] (fun y => [([6, 14], .cells 138 8 [[.list 4 (fns p.funcs), .list 2 (gbs p.globals), .list 1 (lays p.layouts), .int .i64 p.main, .list 2 (sits (a0l p)), .mp [6, 12], .sl [6, 1002] 1 0 y.1, .sl [6, 1000] 1 0 (a0l p).length]]), ([6, 1002], .cells 136 1 (a8m (Rf p y.1)))]) (fun y => MA (a0l p).length (Rf p y.1) 0) (fun y => p.funcs.length - y.1) ⟨0, by simp⟩ (gk3i (j := 6) [([6, 1002], none)] (c3h hB _ _ _) ?_ ?_ ?_ ?_ ?_ ?_ ?_) ?_; (iterate 7 (focus (have r1 := a8n (β := bk [([6, 1002], none)]) (n := (a0l p).length) (fun g hg => by simp [bk]; try omega); simp only [bk] at r1; have n1 := fun (L : List (FM.Loc × FO)) => a7l (β := bk [([6, 1002], none)]) (L := L) (B := B) (c := (a0l p).length) (R := []) (r := 0) (n := (a0l p).length) (by omega) (fun g hg => by simp [bk]; try omega); simp only [bk] at n1; first | rfl | (simp [LPXB, *, SIMB, hdN, injB, bk_n, bk_c, fB, a1k, a1d, a9g, b3o, b3n, hdN, a1m, a6b, a0v, a0e, a0m, a0c, a1u, a0s, a0r, a3f, a4i, a9s, a9r, a7i, a9q, a9p, MA_0, a7j, a7k, List.take_zero, Rf_0]; done)))); rintro ⟨f, hf⟩; simp only [lpS, LPXB]; (try dsimp only at hf); have hRl := e4i hf; have hRg := Rf_g hf; have hcR := b8u (Rf p f); rcases a0z hf with hlt | ⟨hlt, he⟩; rotate_left; subst f; rotate_left; have wf := wli hlt (by omega); have hrr := hp.regs (gm_ hlt); obtain ⟨nr, hnr⟩ : ∃ nr : Nat, (p.funcs[f]'hlt).regs = (nr : Int) := ⟨(p.funcs[f]'hlt).regs.toNat, by have := hrr.p0; have := hrr.p1; omega⟩; have hnr64 : nr <= 64 := (by have := hrr.r64; omega); have hRs := Rf_s hlt hnr; have hz := szn (n := f + 1) (k := 24) (by omega) (by decide); have hz2 : f + 1 <= 4611686018427387904 := (by omega))
  | ((with_reducible refine a1a ?_); refine a1q (σ := {r : Nat // r <= nr}) (fun y => [(8, .sl [6, 1001] 1 0 y.1)]) [52, 47, 46, 45] (fun y => [(53, .int .i64 (y.1 : Int))]) [] (fun y => [([6, 1001], .cells 141 1 (rowM f (mt y.1)))]) (fun y => MA (a0l p).length (Rf p f) y.1) (fun y => nr - y.1) ⟨0, by simp⟩ (gk3i (j := 6) [] (c3h hB _ _ _) ?_ ?_ ?_ ?_ ?_ ?_ ?_) ?_; (iterate 7 (focus (have r1 := a8n (β := bk [([6, 1001], none)]) (n := (a0l p).length) (fun g hg => by simp [bk]; try omega); simp only [bk] at r1; have n1 := fun (L : List (FM.Loc × FO)) => a7l (β := bk [([6, 1001], none)]) (L := L) (B := B) (c := (a0l p).length) (R := (Rf p f)) (r := 0) (n := (a0l p).length) (by omega) (fun g hg => by simp [bk]; try omega); simp only [bk] at n1; have r2 := b2b (β := bk [([6, 1001], none)]) (R := (Rf p f)) (fun g hg => by simp [bk]; try omega); simp only [bk] at r2; have n2 := fun (L : List (FM.Loc × FO)) => b0q (β := bk [([6, 1001], none)]) (L := L) (B := B) (c := (a0l p).length) (R := (Rf p f)) (r := 0) (fun g hg => by simp [bk]; try omega); simp only [bk] at n2; first | rfl | (simp [LPXB, *, SIMB, hdN, injB, bk_n, bk_c, fB, a1k, a1d, a9g, b3o, b3n, hdN, a1m, a6b, a0v, a0e, a0m, a0c, a1u, a0s, a0r, a3f, a4i, a9s, a9r, a7i, a9q, a9p, MA_0, a7j, a7k, List.take_zero, Rf_0]; done)))); rintro ⟨r, hr⟩; simp only [lpS, LPXB]; (try dsimp only at hr); rcases a0z hr with hlr | ⟨hlr, he⟩; rotate_left; subst r; rotate_left; have wr := wli hlr (by omega); have hy := szn (n := r + 1) (k := 8) (by omega) (by decide); have hy2 : r + 1 <= 4611686018427387904 := (by omega); have hcM := c2y f (mt r))
  | ((with_reducible refine a0q ?_); refine a1b (⟨r + 1, by omega⟩) (c0n (j := 6) [85, f, r] [6, 56] (mapO []) [([6, 1001], some [6, 58])] (c1f hB _ _ _) (a0w.2 ⟨by rw [e2k, if_neg (by rw [hRg]; omega)], hB.f8 85 _ (by decide) (by decide)⟩) (b8s hB _ _ _) (fun l hl => (c3h hB _ _ _).lent l hl) (by have h := MA_r (a0l p).length (Rf p f) r; rw [hRl] at h; exact h.symm) (by rfl) (by rfl) ?_ ?_ ?_ ?_) ?_; (focus (simp [injB, bk, LPXB]; done)); (iterate 3 (focus (have r1 := a8n (β := bk (([85, f, r], some [6, 56]) :: [([6, 1001], some [6, 58])])) (n := (a0l p).length) (fun g hg => by simp [bk]; try omega); simp only [bk] at r1; have n1 := fun (L : List (FM.Loc × FO)) => a7l (β := bk (([85, f, r], some [6, 56]) :: [([6, 1001], some [6, 58])])) (L := L) (B := B) (c := (a0l p).length) (R := (Rf p f)) (r := r) (n := (a0l p).length) (by omega) (fun g hg => by simp [bk]; try omega); simp only [bk] at n1; have r2 := b2b (β := bk (([85, f, r], some [6, 56]) :: [([6, 1001], some [6, 58])])) (R := (Rf p f)) (fun g hg => by simp [bk]; try omega); simp only [bk] at r2; have n2 := fun (L : List (FM.Loc × FO)) => b0q (β := bk (([85, f, r], some [6, 56]) :: [([6, 1001], some [6, 58])])) (L := L) (B := B) (c := (a0l p).length) (R := (Rf p f)) (r := r) (fun g hg => by simp [bk]; try omega); simp only [bk] at n2; have r3 := c6m (β := bk (([85, f, r], some [6, 56]) :: [([6, 1001], some [6, 58])])) (f := f) (n := r) (fun g hg => by simp [bk]; try omega); simp only [bk] at r3; have n3 := fun (L : List (FM.Loc × FO)) => c2p (β := bk (([85, f, r], some [6, 56]) :: [([6, 1001], some [6, 58])])) (L := L) (B := B) (c := (a0l p).length) (R := (Rf p f)) (r := r) (f := f) (n := r) (.inl ⟨by first | rfl | omega, by omega⟩) (fun g hg => by simp [bk]; try omega); simp only [bk] at n3; have e1 := e6a f r; simp [LPXB, *, SIMB, bk_n, bk_c, fB, a1k, a1d, a9g, b3o, b3n, hdN, a1m, a6b, a0v, a0e, a0m, a0c, a1u, a0s, a0r, a3f, a4i, a9s, a9r, a7i, a9q, a9p, MA_0, a7j, a7k, List.take_zero, a8c, a8i, mapO, b5b]; done))); (focus (dsimp only; omega)))
  | ((with_reducible refine a0q ?_); refine a1b (⟨f + 1, by omega⟩) (c0n (j := 6) [83, f] [6, 1001] (.cells 141 1 (rowM f (mt nr))) [([6, 1002], some [6, 67])] (c1f hB _ _ _) (a0w.2 ⟨by rw [e9w, gn_ (by rw [hRl]; omega)]; rfl, hB.f8 83 _ (by decide) (by decide)⟩) (b8s hB _ _ _) (fun l hl => (c3h hB _ _ _).lent l hl) (by have h := MA_R (a0l p).length (Rf p f) nr; rw [hRl] at h; rw [hRs]; exact h.symm) (by rfl) (by rfl) ?_ ?_ ?_ ?_) ?_; (focus (simp [injB, bk, LPXB]; done)); (iterate 3 (focus (have r1 := a8n (β := bk (([83, f], some [6, 1001]) :: [([6, 1002], some [6, 67])])) (n := (a0l p).length) (fun g hg => by simp [bk]; try omega); simp only [bk] at r1; have n1 := fun (L : List (FM.Loc × FO)) => a7l (β := bk (([83, f], some [6, 1001]) :: [([6, 1002], some [6, 67])])) (L := L) (B := B) (c := (a0l p).length) (R := (Rf p f)) (r := nr) (n := (a0l p).length) (by omega) (fun g hg => by simp [bk]; try omega); simp only [bk] at n1; have r2 := b2b (β := bk (([83, f], some [6, 1001]) :: [([6, 1002], some [6, 67])])) (R := (Rf p f)) (fun g hg => by simp [bk]; try omega); simp only [bk] at r2; have n2 := fun (L : List (FM.Loc × FO)) => b0q (β := bk (([83, f], some [6, 1001]) :: [([6, 1002], some [6, 67])])) (L := L) (B := B) (c := (a0l p).length) (R := (Rf p f)) (r := nr) (fun g hg => by simp [bk]; try omega); simp only [bk] at n2; have r3 := c6m (β := bk (([83, f], some [6, 1001]) :: [([6, 1002], some [6, 67])])) (f := f) (n := nr) (fun g hg => by simp [bk]; try omega); simp only [bk] at r3; have n3 := fun (L : List (FM.Loc × FO)) => c2p (β := bk (([83, f], some [6, 1001]) :: [([6, 1002], some [6, 67])])) (L := L) (B := B) (c := (a0l p).length) (R := (Rf p f)) (r := nr) (f := f) (n := nr) (.inl ⟨by first | rfl | omega, by omega⟩) (fun g hg => by simp [bk]; try omega); simp only [bk] at n3; have e1 := c9t (Rf p f) nr; rw [hRl] at e1; simp [LPXB, *, SIMB, bk_n, bk_c, fB, a1k, a1d, a9g, b3o, b3n, hdN, a1m, a6b, a0v, a0e, a0m, a0c, a1u, a0s, a0r, a3f, a4i, a9s, a9r, a7i, a9q, a9p, MA_0, a7j, a7k, List.take_zero, a8c, a8i, mapO, b5b]; done))); (focus (dsimp only; omega)))
  | (with_reducible refine a1f (id := 19) fun K hK => ?_)
  | ((with_reducible refine wlH ?_); refine f0d (gk5i (vs1 := [.undef, .undef, .nilp, .ptr [81] 8 0 0, .undef, .undef, .undef, .undef, .undef]) (tm1 := []) (ix1 := []) (L1 := [([81], .cells 138 8 [anR p]), ([82], .cells 136 1 (a8m (Rf p p.funcs.length))), ([84], .cells 141 1 (rowC (mt (a0l p).length))), ([87], .map (sitE (a0l p)) ((a0l p).length - 1))]) [([81], some [6, 14]), ([82], some [6, 1002]), ([84], some [6, 1000]), ([87], some [6, 12])] (f9x hp hB) (by rfl) ?_ ?_ (b8s hB _ _ _) (fun l hl => (c3h hB _ _ _).lent l hl) ?_ ?_ ?_) ?_; (focus (intro n hn; simp at hn; (try dsimp only); rcases hn with rfl | rfl | rfl | rfl | rfl | rfl | rfl | rfl | rfl | rfl | rfl | rfl <;> simp [a0w, a9g, b3o, b3n, fB, hB.f8])); (focus (intro q hq; simp at hq; rcases hq with rfl | rfl | rfl | rfl | rfl <;> simp [a0w, a9g, fB])); (focus (simp [*, SIMB, bk_n, bk_c, fB, a1k, a1d, a9g, b3o, b3n, hdN, a1m, a6b, a0v, a0e, a0m, a0c, a1u, a0s, a0r, a3f, a4i, a9s, a9r, a7i, a9q, a9p, MA_0, a7j, a7k, List.take_zero, Rf_0]; done)); (focus (first | trivial | (simp [simT]; done))); (focus (have r1 := a8n (β := bk [([81], some [6, 14]), ([82], some [6, 1002]), ([84], some [6, 1000]), ([87], some [6, 12])]) (n := (a0l p).length) (fun g hg => by simp [bk]; try omega); simp only [bk] at r1; have n1 := fun (L : List (FM.Loc × FO)) => a7l (β := bk [([81], some [6, 14]), ([82], some [6, 1002]), ([84], some [6, 1000]), ([87], some [6, 12])]) (L := L) (B := B) (c := (a0l p).length) (R := (Rf p p.funcs.length)) (r := 0) (n := (a0l p).length) (by omega) (fun g hg => by simp [bk]; try omega); simp only [bk] at n1; have r2 := b2b (β := bk [([81], some [6, 14]), ([82], some [6, 1002]), ([84], some [6, 1000]), ([87], some [6, 12])]) (R := (Rf p p.funcs.length)) (fun g hg => by simp [bk]; try omega); simp only [bk] at r2; have n2 := fun (L : List (FM.Loc × FO)) => b0q (β := bk [([81], some [6, 14]), ([82], some [6, 1002]), ([84], some [6, 1000]), ([87], some [6, 12])]) (L := L) (B := B) (c := (a0l p).length) (R := (Rf p p.funcs.length)) (r := 0) (fun g hg => by simp [bk]; try omega); simp only [bk] at n2;  simp [*, SIMB, bk_n, bk_c, fB, a1k, a1d, a9g, b3o, b3n, hdN, a1m, a6b, a0v, a0e, a0m, a0c, a1u, a0s, a0r, a3f, a4i, a9s, a9r, a7i, a9q, a9p, MA_0, a7j, a7k, List.take_zero, Rf_0, anR, hRl]; done)); refine b3r ?_)
  | ((with_reducible refine lfH ?_); refine ⟨HP [] B (MN p (a4m p)), ⟨rfl, rfl⟩, fun _ _ h => h, d8u, a2n b2u, d6u hp hB⟩)
  | with_reducible first | refine a2j (id := 1) 6 a0y (by kernel_rfl) fun K hK => ?_ | refine a2j (id := 6) 6 a0y (by kernel_rfl) fun K hK => ?_ | refine stp ?_ | refine stpK ?_; intro K hK | refine stpC ?_; intro T E hT hE | refine stp2 ?_ ?_ <;> intro h | refine a0g rfl ?_ | refine a1e (c5w hp) (by simp [nls, nl, *, NLXB]) ?_ | refine hpc (c5w hp) (by simp [nls, nl, *, NLXB]) ?_ | refine a0j rfl (lbR rfl) a0i ?_ | refine a0j rfl (lbR rfl) (a0h (by simp [HPXB, a9g, fB, ext, upd, *])) ?_ | refine a1g (by decide) (by kernel_rfl) ?_ | refine a0o (by decide) ?_ | refine Kont.go hK ?_; clear hK K | refine KT.go hT ?_; clear hT hE T E | refine KT.go hE ?_; clear hT hE T E
  | simp [*, -List.all_flatten, -List.all_eq_true, DEFM, bk_n, bk_c, fB, a1k, a1d, a9g, b3o, b3n, hdN, a1m, a6b, a0v, a0e, a0m, a0c, a1u, a0s, a0r, a3f, a4i, a9s, a9r, a7i, a9q, a9p, MA_0, a7j, a7k, List.take_zero, Rf_0, a1c, a2o, FnD.row, d2f, b1z, c2z, c2y, b8u]
theorem f0r {p : Pg} {f : Nat} {nm : ByteArray} {pa rg : Int} {c : List Ins} (hF : FOk p f nm pa rg c) {U I : FV} {B : Heap} (hB : BsH 2 B) (hS : B [95, f] = some (.cells 72 11 [[.list 4 (fns p.funcs), .list 2 (gbs p.globals), .list 1 (lays p.layouts), .int .i64 p.main, .int .i64 f, .str nm, .int .i64 pa, .int .i64 rg, .list 5 (inss c), U, I]])) {i a : Nat} (hi : i < c.length) (ha : a <= i) : FC Tryz.prog Gl 81 [.ptr [95, f] 11 0 0, .int .i64 i, .int .i64 a] (HP [] B noH) (.int .i64 (usB c c[i].a a i)) (HP [] B noH) := by
 have hc := hF.hc
 have h1000 := hc.n1000
 have hfr : ∀ r, B (2 :: r) = none := fun r => hB.fr 2 r (nr_ _)
 have wi : IntKind.wrap .i64 ((i : Int) - 1) = (i : Int) - 1 := by rw [IntKind.wrap_i64]; omega
 refine a5n (res := [.tmp 6]) 9 49 [] (fun d ix => 2 :: d :: ix) (fn := Tryz.f81) (by kernel_rfl) (by rfl) (by rfl) (by rfl) (by simp) (by decide) ?_
 repeat' first
  | ((with_reducible refine c2j (j := 2) hB.bs ?_ ?_ ?_ ?_); (iterate 2 (focus rfl)); (focus (first | rfl | (simp [*]; done))); focus (first | trivial | (simp [nin, nins, a3n, inH, HPXB]; done)))
  | ((with_reducible refine a1a ?_); refine a1q (σ := {y : Nat // a <= y /\ y <= i /\ usB c c[i].a a y = usB c c[i].a a i}) (fun y => [(8, .int .i64 ((y.1 : Int) - 1))]) [] (fun y => []) [] (fun y => []) (fun y => noH) (fun y => y.1) ⟨i, ha, nr_ _, rfl⟩ (gk3 (j := 2) [] hB.bs ?_ ?_ ?_ ?_ ?_ ?_ ?_) ?_; (iterate 7 (focus (first | rfl | (simp [LPXB, *, SIMB, hdN, injB]; done)))); rintro ⟨y, h1, h2, he⟩; simp only [lpS, LPXB]; (try dsimp only at h1 h2 he); rcases Nat.eq_or_lt_of_le h1 with e | hlt; subst e; rw [d1e (nr_ _)] at he; have hlt : (a : Int) - 1 < (a : Int) := (by omega); have hnl : ¬ (a : Int) <= (a : Int) - 1 := (by omega); rotate_left; obtain ⟨m, rfl⟩ : ∃ m, y = m + 1 := ⟨y - 1, by omega⟩; have hml : m < c.length := (by omega); rw [f0n hml (by omega)] at he; have g0 : (a : Int) <= (m : Int) := (by omega); have wm : IntKind.wrap .i64 ((m : Int) - 1) = (m : Int) - 1 := (by rw [IntKind.wrap_i64]; omega); have pm : ((m + 1 : Nat) : Int) - 1 = (m : Int) := (by omega); by_cases hw : wrB c[m] c[i].a = true; rw [if_pos hw] at he; by_cases h18 : c[m].op = 18; rw [if_pos h18] at he; rotate_left; rw [if_neg h18] at he; rotate_left; have hwf : wrB c[m] c[i].a = false := (by simpa using hw); rw [if_neg hw] at he; rotate_left)
  | ((with_reducible refine a0q ?_); refine a1b (⟨m, by omega, by omega, he⟩) (gk3 (j := 2) [] hB.bs ?_ ?_ ?_ ?_ ?_ ?_ ?_) ?_; (iterate 7 (focus (first | rfl | (simp [LPXB, *, SIMB, hdN, injB]; done)))); (focus (dsimp only; omega)))
  | ((with_reducible refine cgB ?_); refine a4t (d8k hF (hB.mono (by decide)) hS hml _) ?_)
  | with_reducible first | refine stp ?_ | refine stpK ?_; intro K hK | refine stpC ?_; intro T E hT hE | refine stp2 ?_ ?_ <;> intro h | refine a0g rfl ?_ | refine a0j rfl (lbR rfl) a0i ?_ | refine a0j rfl (lbR rfl) (a0h (by simp [HPXB, hS, hfr, ext, upd, *])) ?_ | refine a1g (by decide) (by kernel_rfl) ?_ | refine a0o (by decide) ?_ | refine Kont.go hK ?_; clear hK K | refine KT.go hT ?_; clear hT hE T E | refine KT.go hE ?_; clear hT hE T E
  | simp [*, -List.all_flatten, -List.all_eq_true, DEFB, LENB, asR, a1w, Ins.row, a1k, hS, hfr]
theorem b9e {L : List (FM.Loc × FO)} {B : Heap} {k : FM.Loc} (h : B k ≠ none) : updL L B k ≠ none := by
 induction L with
 | nil => exact h
 | cons p L ih =>
   rw [show p = (p.1, p.2) from rfl, a1p]
   split
   . simp
   . exact ih
theorem BsH.callS {j : Nat} {B : Heap} (h : BsH j B) (i : Nat) {L : List (FM.Loc × FO)} (hi : i <= j) (hn : (L.all fun p => decide (i < p.1.headD 0)) = true) (ho : ninL (inH (HP L B noH)) L) : BsH i (updL L B) := by
 refine ⟨fun k r hk => ?_, fun l o hl => ?_⟩
 . rw [a5h fun p hp e => ?_]
   . exact h.fr k r (by omega)
   . have := List.all_eq_true.1 hn p hp
     rw [e] at this
     simp at this
     omega
 . rcases a5z hl with h1 | ⟨_, h1⟩
   . exact a8o ho _ h1
   . exact a3k (fun q hq => b9e hq) (h.clo l o h1)
theorem a5r (U : FM.Loc -> Prop) : ∀ x : List (BitVec 64), a2u U (u64s x)
 | [] => trivial
 | _ :: x => ⟨⟨trivial, trivial⟩, a5r U x⟩
theorem a5l (U : FM.Loc -> Prop) : ∀ x : List Int, a2u U (ints x)
 | [] => trivial
 | _ :: x => ⟨⟨trivial, trivial⟩, a5l U x⟩
theorem BsH.toG {j f : Nat} {H : Heap} (h : BsH j H) : BsG j f H := ⟨h.fr, fun g l o hl => by
 by_cases e : l = [97, f]
 . subst e
   have : ext H (GA f g) [97, f] = some (.cells 68 1 (u64s g)) := a7w (b7v f g)
   rw [this] at hl
   obtain rfl := sI_ hl
   exact a5r _ g
 . have hA : GA f g l = none := by simp [GA, upd, noH, e]
   have : ext H (GA f g) l = H l := b6w hA
   rw [this] at hl
   refine a3k (fun q hq => ?_) (h.clo l o hl)
   intro hn
   exact hq (a0w.1 hn).2⟩
theorem e1y {P : Program} {c : Cfg} {ops : Array Oper} {o : Oper} {rest : List Oper} {K : Fs -> Prop} {s : Fs} {f fn : Nat} {Ar : List FV} {r : FV} {L : List (FM.Loc × FO)} {B : Heap} {g g' : List (BitVec 64)} (hs : s.H = HP L B noH) (hg : HP L B noH [97, f] = some (.cells 68 1 (u64s g)))
 (hfc : FC P c.G fn Ar (HP [] (updL L B) (GA f g)) r (HP [] (updL L B) (GA f g'))) (h : StK P c ops rest K (putD c o r { s with H := upd (HP L B noH) [97, f] (.cells 68 1 (u64s g')) })) : b0z P c ops o rest K s fn true Ar := by
 have e : ∀ g', HP [] (updL L B) (GA f g') = upd (HP L B noH) [97, f] (.cells 68 1 (u64s g')) := fun g' => by
  funext k
  by_cases ek : k = [97, f]
  . subst ek
    rw [c5g]; simp [upd]
  . have hA : GA f g' k = none := by simp [GA, upd, noH, ek]
    rw [a1k hA, a1v]
    simp only [upd, if_neg ek]; rfl
 rw [e, e, b0e hg] at hfc
 exact ⟨rfl, r, _, by rw [hs]; exact hfc, h⟩
theorem e1z {P : Program} {c : Cfg} {ops : Array Oper} {o : Oper} {rest : List Oper} {K : Fs -> Prop} {s : Fs} {f : FuncId} {Ar : List FV} {r : FV} {L : List (FM.Loc × FO)} {B : Heap} (hs : s.H = HP L B noH) (hfc : FC P c.G f Ar (HP [] (updL L B) noH) r (HP [] (updL L B) noH)) (h : StK P c ops rest K (putD c o r s)) : b0z P c ops o rest K s f true Ar := by
 refine ⟨rfl, r, HP L B noH, by rw [hs]; exact hfc, ?_⟩
 rw [<- hs]
 exact h
theorem f7o {B : Heap} {j : Nat} (hB : BsH j B) {L L' : List (FM.Loc × FO)} {r : FV} (hl : ∀ p ∈ L, B p.1 = none) (hL : ∀ p ∈ L', HP L B noH p.1 = some p.2) (hr : nin (inH (HP L' B noH)) r) (ho : ninL (inH (HP L' B noH)) L') : LFin (HP [] B noH) (fun r1 H1 => r1 = r /\ H1 = HP L' B noH) (HP L B noH) (some [r]) := by
 refine ⟨_, ⟨rfl, rfl⟩, fun k o hk => ?_, fun k hk => b9e hk, hr, fun k o hk => ?_⟩
 . rcases a5z hk with h | ⟨h, h2⟩
   . exact hL _ h
   . show updL L B k = some o
     rw [a5h fun p hp ep => ?_]
     . exact h2
     . have := hl p hp
       rw [ep, h2] at this; cases this
 . rcases a5z hk with h | ⟨_, h⟩
   . exact a8o ho _ h
   . exact a3k (fun q hq => b9e hq) (hB.clo k o h)
def stJ (c : List Ins) (j : Nat) : Nat := match (blks c)[j]? with
 | some b => b.1
 | none => c.length
theorem c1p {c : List Ins} {j : Nat} (h : j < (blks c).length) : stJ c j = (blks c)[j].1 := by
 unfold stJ; rw [gE_ h]
theorem f6k {c : List Ins} (hc : CodeOk c) : stJ c 0 = 0 := by
 rw [c1p (b5d hc)]
 exact c8u (b5d hc)
theorem f6j {c : List Ins} (hc : CodeOk c) {j : Nat} (h : j < (blks c).length) : stJ c (j + 1) = (blks c)[j].2 := by
 by_cases h1 : j + 1 < (blks c).length
 . rw [c1p h1]; exact c5c hc h1
 . have e : (blks c)[j]? = (blks c)[(blks c).length - 1]? := by rw [show (blks c).length - 1 = j by omega]
   have h2 := e9f (c := c) (k := c.length) (b5d hc)
   rw [c3p hc] at h2
   unfold stJ
   rw [gn_ (by omega)]
   rw [<- h2]
   have e3 : (blks c).length - 1 = j := by omega
   simp only [show (bkF c c.length) = blks c from rfl, e3]
theorem e5p (c : List Ins) : stJ c (blks c).length = c.length := by
 unfold stJ; rw [gn_ (nr_ _)]
theorem g0w {c : List Ins} {i : Nat} (h : i < (g0B 64 c).length) : (g0B 64 c)[i] = (g0B 64 c).getD i 0 := by rw [gD_, gE_ h]; rfl
theorem f0k {c : List Ins} {i : Nat} (h : i < c.length) : ints ((usL c).take i) ++ [[.int .i64 (usC c i)]] = ints ((usL c).take (i + 1)) := by
 rw [List.take_succ_eq_append_getElem (by rw [a3b]; exact h), d1d]
 simp [ints, a2f]
theorem f3l {c : List Ins} {i : Nat} (h : i < c.length) {w : BitVec 64} (hw : (g0B 64 c).getD i 0 = w) : u64s ((g0B 64 c).take i) ++ [[.int .u64 (w.toNat : Int)]] = u64s ((g0B 64 c).take (i + 1)) := by
 have hl : i < (g0B 64 c).length := by rw [a3p]; exact h
 rw [List.take_succ_eq_append_getElem hl, g0w hl, hw]
 simp [u64s]
theorem d9k : IntKind.wrap .u64 ((BitVec.ofInt (IntKind.bits .u64) (if (IntKind.signed .u64) = true then -1 else IntKind.max .u64) ^^^ BitVec.ofInt (IntKind.bits .u64) 0).toNat : Int) = ((BitVec.allOnes 64).toNat : Int) := by decide
theorem f4p {c : List Ins} {B : List (Nat × Nat)} {i : Nat} (h : i < (bxV c B).length) : (bxV c B)[i] = bRow (B[i]'(by rwa [a2x] at h)) (.list 1 (ints (nxB c (B[i]'(by rwa [a2x] at h))))) := by simp [bxV]
structure BsL (f : Nat) (B : Heap) : Prop where
 fr : ∀ k r, k <= 5 -> B (k :: r) = none
 f95 : B [95, f] = none
 f96 : B [96, f] = none
 f97 : B [97, f] = none
 clo : Clo B
theorem BsL.toH {f : Nat} {B : Heap} (h : BsL f B) : BsH 5 B := ⟨h.fr, h.clo⟩
theorem BsL.c5 {f : Nat} {B : Heap} (h : BsL f B) : Clo (ext B noH) := by rw [a1l]; exact h.clo
theorem BsL.l5 {f : Nat} {B : Heap} (_ : BsL f B) : ∀ l, inH (HP [] B noH) l -> ext B noH l ≠ none := fun _ h => h
theorem c5r : u64s [] = [] := rfl
end Go.Je
