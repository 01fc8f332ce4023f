/- Part. -/
import Derived.Test.YtfhhgjbcenhdeaaGreatDoorS27
import Derived.Test.YtfhhgjbcenhdeaaGreatDoorS28
import Derived.Test.YtfhhgjbcenhdeaaGreatDoorS29
import Derived.Test.YtfhhgjbcenhdeaaGreatDoorS16
import Derived.Test.YtfhhgjbcenhdeaaGreatDoorS30
set_option linter.all false
set_option maxRecDepth 100000
set_option maxHeartbeats 0
namespace Go.Je
open Go Go.FM Go.Gv Go.Proofs
variable {A B : Heap} {L : LF} {R : List Nat} {U : FM.Loc -> Prop} {Y Z y : Pts} {c : List Ins} {f i j k n : Nat} {fk : FuncId} {g h m : Bool} {l : FM.Loc} {nm : ByteArray} {p : Pg} {pa rg : Int} {ss : List Int} {t : SL}
theorem f9o (hp : VOk p) (hCT : CT p m fk) (hfk : fnOk Tp fk = true) {pc : Nat} (hf : f < p.fu.length) {X : Ins} (hI : InsOk p p.fu[f] X) (hy : Shp p Y) (hB : BsM p 3 B) : FCr Tp Gl 141 [.ptr [81] 8 0 0, .agg [.int .i64 (f : Int), .int .i64 (pc : Int)], .agg X.row, .clo fk [] [.ptr [88] 1 0 0]] (HP [] B (MF p Y g)) (OutT p m B (a1x p f pc X) Y g) := by
 by_cases q18 : X.op = 18
 . exact c_18 hp hCT hfk hf hI hy hB q18
 by_cases q21 : X.op = 21
 . exact f7a hp hCT hfk hf hI hy hB (.inl q21)
 by_cases q22 : X.op = 22
 . exact f7a hp hCT hfk hf hI hy hB (.inr (.inl q22))
 by_cases q23 : X.op = 23
 . exact f7a hp hCT hfk hf hI hy hB (.inr (.inr q23))
 by_cases q24 : X.op = 24
 . exact c_24 hp hCT hfk hf hI hy hB q24
 by_cases q3 : X.op = 3
 . exact c_f3 hp hCT hfk hf hI hy hB (.inl q3)
 by_cases q19 : X.op = 19
 . exact c_f3 hp hCT hfk hf hI hy hB (.inr (.inl q19))
 by_cases q20 : X.op = 20
 . exact c_f3 hp hCT hfk hf hI hy hB (.inr (.inr q20))
 by_cases q25 : X.op = 25
 . exact c_25 hp hCT hfk hf hI hy hB q25
 by_cases q33 : X.op = 33
 . exact g4c hp hCT hfk hf hI hy hB (.inl q33)
 by_cases q35 : X.op = 35
 . exact g4c hp hCT hfk hf hI hy hB (.inr q35)
 by_cases q34 : X.op = 34
 . exact f6y hp hCT hfk hf hI hy hB (.inl q34)
 by_cases q36 : X.op = 36
 . exact f6y hp hCT hfk hf hI hy hB (.inr (.inl q36))
 by_cases q47 : X.op = 47
 . exact f6y hp hCT hfk hf hI hy hB (.inr (.inr q47))
 by_cases q38 : X.op = 38
 . exact c_38 hp hCT hfk hf hI hy hB q38
 by_cases q48 : X.op = 48
 . by_cases h0 : 0 <= X.a
   . exact g9o hp hCT hfk hf hI hy hB q48 h0
   . exact g9p hp hCT hfk hf hI hy hB q48 h0
 by_cases q51 : X.op = 51
 . by_cases h1 : X.b = 1
   . exact g9m hp hCT hfk hf hI hy hB q51 h1
   . by_cases h0 : 0 <= X.c
     . exact g9l hp hCT hfk hf hI hy hB q51 h1 h0
     . exact g9n hp hCT hfk hf hI hy hB q51 h1 h0
 by_cases q26 : X.op = 26
 . exact c_26 hp hCT hfk hf hI hy hB q26
 by_cases q28 : X.op = 28
 . exact c_28 hp hCT hfk hf hI hy hB q28
 by_cases q31 : X.op = 31
 . exact c_31 hp hCT hfk hf hI hy hB q31
 by_cases q27 : X.op = 27
 . exact f6z hp hCT hfk hf hI hy hB (.inl q27)
 by_cases q29 : X.op = 29
 . exact f6z hp hCT hfk hf hI hy hB (.inr (.inl q29))
 by_cases q32 : X.op = 32
 . exact f6z hp hCT hfk hf hI hy hB (.inr (.inr q32))
 exact f6x hp hCT hfk hf hI hy hB q18 q21 q22 q23 q24 q3 q19 q20 q25 q33 q35 q34 q36 q47 q38 q48 q51 q26 q28 q31 q27 q29 q32
theorem g9d (hp : VOk p) (hCT : CT p m fk) (hfk : fnOk Tp fk = true) (hi : i < p.fu.length) (hj : j < p.fu[i].code.length) (hy : Shp p Y) (hB : BsM p 4 B) (hl : hdN 4 (L.map Prod.fst) = true) (hn : ninL (inH (HP L B (MF p Y g))) L) :
 FCr Tp Gl 141 [.ptr [81] 8 0 0, .agg [.int .i64 (i : Int), .int .i64 (j : Int)], .agg p.fu[i].code[j].row, .clo fk [] [.ptr [88] 1 0 0]] (HP [] (updL L B) (MF p Y g)) (OutT p m (updL L B) (a1x p i j p.fu[i].code[j]) Y g) := f9o hp hCT hfk hi (hp.ins _ (A5p hi) _ (A5p hj)) hy (hB.call 3 yb hy hl hn)
def cdP (p : Pg) (i j : Nat) (z : Pts) : Prop := ∀ i' (h : i' < p.fu.length) j' (h' : j' < p.fu[i'].code.length), i' < i \/ (i' = i /\ j' < j) -> a1x p i' j' p.fu[i'].code[j'] z
theorem g9k (p : Pg) (z : Pts) : cdP p 0 0 z := fun _ _ _ _ h => by omega
theorem g9h (hi : i < p.fu.length) (hj : j < p.fu[i].code.length) (z : Pts) : cdP p i (j + 1) z ↔ cdP p i j z /\ a1x p i j p.fu[i].code[j] z := by
 constructor
 . intro h; exact ⟨fun i' h1 j' h2 h3 => h i' h1 j' h2 ya, h i hi j hj (.inr ⟨rfl, by omega⟩)⟩
 . rintro ⟨h1, h2⟩ i' h3 j' h4 h5
   by_cases e : i' = i /\ j' = j
   . obtain ⟨rfl, rfl⟩ := e; exact h2
   . exact h1 i' h3 j' h4 ya
theorem g9i (hi : i < p.fu.length) (z : Pts) : cdP p (i + 1) 0 z ↔ cdP p i p.fu[i].code.length z := by
 constructor
 . intro h i' h1 j' h2 h3; exact h i' h1 j' h2 ya
 . intro h i' h1 j' h2 h3
   by_cases e : i' = i
   . subst e; exact h i' h1 j' h2 (.inr ⟨rfl, h2⟩)
   . exact h i' h1 j' h2 ya
theorem g9j (z : Pts) : a4i p z ↔ cdP p p.fu.length 0 z :=
 ⟨fun h i hi j hj _ => h i hi j hj, fun h i hi j hj => h i hi j hj (.inl hi)⟩
theorem TR.stepc {C C' D : Pts -> Prop} {Z2 : Pts} {h2 : Bool} (H : TR m C C Y g Z h) (hT : TR m D D Z h Z2 h2) (hk : ∀ z, C' z ↔ C z /\ D z) : TR m C' C' Y g Z2 h2 := (H.comp hT).congr hk
theorem c2v (hp : VOk p) (hCT : CT p m fk) (hfk : fnOk Tp fk = true) (hy : Shp p Y) (hB : BsM p 4 B) : FCr Tp Gl 92 [.ptr [81] 8 0 0, .clo fk [] [.ptr [88] 1 0 0]] (HP [] B (MF p Y g)) (OutT p m B (a4i p) Y g) := by
 have hsv := a0h hp
 have fB : ∀ r, B (4 :: r) = none := fun r => (hB Y g Y g hy hy).fb 4 r yb
 have yl3 := hy.rn
 have hi1 : ∀ (L : LF) (Z : Pts) (h : Bool), inH (HP L B (MF p Z h)) [88] := fun L Z h => a5m
 have hi2 : ∀ (L : LF) (Z : Pts) (h : Bool), inH (HP L B (MF p Z h)) [81] := fun L Z h => a1g a4j
 refine zd Tryz.f92 [] 8 36 [14, 13, 12, 22, 21, 20] 4 ?_
 repeat' first
  | ((with_reducible refine a9y (id := 6) fun K hK => ?_); refine a7k 6 ?_)
  | (refine yi ?_; refine a0e (σ := {x : Nat × (Pts × Bool) // x.1 <= p.fu.length /\ Shp p x.2.1 /\ TR m (cdP p x.1 0) (cdP p x.1 0) Y g x.2.1 x.2.2}) (fun y => [(4, .undef), (5, .undef), (6, .undef), (7, .undef)]) [13, 12] (fun y => [(14, .int .i64 (y.1.1 : Int))]) [[4, 5], [4, 7]] (fun y => []) (fun y => MF p y.1.2.1 y.1.2.2) (fun y => p.fu.length - y.1.1) ⟨(0, (Y, g)), A2a _, hy, TR.id (g9k _ _)⟩ (gk3i (j := 4) [] (hB _ _ _ _ hy hy) yk yk yk yk yk yk yk) ?_; rintro ⟨⟨i, ⟨Z, u⟩⟩, hi, hZ, hT1⟩; simp only [lpS, LPXB]; (try dsimp only at hi hZ hT1); have z3 := hZ.rn; rcases cl2 hi z1t with ⟨hlt, wi⟩ | ⟨hlt, rfl⟩; have hcv := b9n hp hlt)
  | (refine yi ?_; refine a0e (σ := {x : Nat × (Pts × Bool) // x.1 <= (p.fu[i]'hlt).code.length /\ Shp p x.2.1 /\ TR m (cdP p i x.1) (cdP p i x.1) Y g x.2.1 x.2.2}) (fun y => [(6, .undef), (7, .undef)]) [21, 20, 14, 13, 12] (fun y => [(22, .int .i64 (y.1.1 : Int))]) [[4, 7]] (fun y => []) (fun y => MF p y.1.2.1 y.1.2.2) (fun y => (p.fu[i]'hlt).code.length - y.1.1) ⟨(0, (Z, u)), A2a _, hZ, hT1⟩ (gk3i (j := 4) [] (hB _ _ _ _ hy hZ) yk yk yk yk yk yk yk) ?_; rintro ⟨⟨j, ⟨V, v⟩⟩, hj, hV, hT2⟩; simp only [lpS, LPXB]; (try dsimp only at hj hV hT2); have v3 := hV.rn; rcases cl2 hj ya with ⟨hlk, wk⟩ | ⟨hlk, rfl⟩)
  | (refine zj ?_; refine a1c yc (fun d hd => ?_) rfl (g9d hp hCT hfk hlt hlk hV hB ?_ ?_) ?_; (focus (cases hd; exact A5l rfl)); (focus rfl); (focus (first | rfl | (simp [ninL, ninO, a1h, nins, nin, zk, mapO, z15, hdN, *]; done))); (rintro r' H' ⟨rfl, V2, v2_, rfl, hV2, hT4⟩))
  | (refine ye ?_; refine a0b (⟨(j + 1, (V2, v2_)), by omega, hV2, TR.stepc hT2 hT4 (g9h hlt hlk)⟩) (gk3i (j := 4) [] (hB _ _ _ _ hy hV2) yk yk yk yk yk yk yk) yf)
  | (refine ye ?_; refine a0b (⟨(i + 1, (V, v)), by omega, hV, hT2.congr (g9i hlt)⟩) (gk3i (j := 4) [] (hB _ _ _ _ hy hV) yk yk yk yk yk yk yk) yf)
  | (refine zf ?_; refine a4y (j := 4) (hB _ _ _ _ hy hZ) rfl ⟨rfl, Z, u, rfl, hZ, hT1.congr g9j⟩ trivial)
  | with_reducible first | refine a2w ?_ | refine a4r ?_ | refine yo ?_ | refine stpK ?_; intro K hK | refine stpC ?_; intro T E hT hE | refine stp2 ?_ ?_ <;> intro h | refine yg ?_; clear hK K | refine yh ?_; clear hT hE T E
  | simp [*, -List.all_flatten, -List.all_eq_true, DEFM, fB, yu, hdN, zt, anR, y3, rmvs, za, FnD.row, Ins.row, c7g]
theorem e3k (hp : VOk p) : Pq 140 [PA p] (.list 2 (sits (a0a p))) := by
 refine yq Tryz.f140 [.tmp 2] 8 42 [13, 12, 11, 21, 20, 19, 27] 0 ?_
 repeat' first
  | (refine yi ?_; refine a0e (σ := {i : Nat // i <= p.fu.length}) (fun y => [(4, .undef), (5, .undef), (6, .undef), (7, .undef), (3, .sl [0, 1000] 2 0 (sitP p.fu y.1).length)]) [12, 11] (fun y => [(13, .int .i64 (y.1 : Int))]) [[0, 5], [0, 7], [0, 9]] (fun y => [([0, 1000], .cells 98 2 (sits (sitP p.fu y.1)))]) (fun y => noH) (fun y => p.fu.length - y.1) ⟨0, by simp⟩ (gk3 (j := 0) [] (Bs.pc _) wu wu wu wu wu wu wu) ?_; rintro ⟨i, hi⟩; simp only [lpS, LPXB]; (try dsimp only at hi); rcases a0c hi with hlt | ⟨hlt, rfl⟩; have wi := wli hlt z1t; have hc := b9n hp hlt; have hz := c8m p.fu i; rotate_left; have e : a0a p = sitP p.fu p.fu.length := rfl; have hl := d5n hp (A5s _); rotate_left)
  | (refine yi ?_; refine a0e (σ := {j : Nat // j <= (p.fu[i]'hlt).code.length}) (fun y => [(6, .undef), (7, .undef), (3, .sl [0, 1000] 2 0 (sit2 p.fu i y.1).length)]) [20, 19, 13, 12, 11] (fun y => [(21, .int .i64 (y.1 : Int))]) [[0, 7]] (fun y => [([0, 1000], .cells 98 2 (sits (sit2 p.fu i y.1)))]) (fun y => noH) (fun y => (p.fu[i]'hlt).code.length - y.1) ⟨0, by simp⟩ (gk3 (j := 0) [] (Bs.pc _) yx yx yx yx yx yx yx) ?_; rintro ⟨j, hj⟩; simp only [lpS, LPXB]; (try dsimp only at hj); rcases a0c hj with hlk | ⟨hlk, rfl⟩; have wk := wli hlk ya; have hl := e9g hp hlt hj; have hs := szn (n := (sit2 p.fu i j).length + 1) (k := 16) ya yb; have hs2 : (sit2 p.fu i j).length + 1 <= 4611686018427387904 := ya; rcases c4v ((p.fu[i]'hlt).code[j]'hlk).op with ⟨q1, hac⟩ | ⟨q1, q2, hac⟩ | ⟨q1, q2, q3, hac⟩ | ⟨q1, q2, q3, q4, hac⟩ | ⟨q1, q2, q3, q4, hac⟩; rotate_right; have hen := c8l hlt; rotate_left)
  | (refine ye ?_; refine a0b (⟨j + 1, by omega⟩) (gk3 (j := 0) [] (Bs.pc _) ww ww ww ww ww ww ww) yf)
  | (refine ye ?_; refine a0b (⟨j + 1, by omega⟩) (gk3 (j := 0) [] (Bs.pc _) wx wx wx wx wx wx wx) yf)
  | (refine ye ?_; refine a0b (⟨i + 1, by omega⟩) yt yf)
  | refine yo ?_
  | (refine stpK ?_; intro K hK)
  | (refine stpC ?_; intro T E hT hE)
  | (refine stp2 ?_ ?_ <;> intro h)
  | (refine yg ?_; clear hK K)
  | (refine yh ?_; clear hT hE T E)
  | simp [*, -List.all_flatten, -List.all_eq_true, yl, A0c, a7l, asR]
def MN (p : Pg) (y : Pts) : Heap := fun l => if l = [88] then none else MF p y false l
theorem b8r (h : l ≠ [88]) : MN p y l = MF p y false l := by simp [MN, h]
theorem b3a (p : Pg) (y : Pts) (k : Nat) (r : List Nat) (hk : k <= 20) : MN p y (k :: r) = none := by
 unfold MN
 split
 . rfl
 . exact a8r p y false k r hk
section
variable {L : LF} {B : Heap} {p : Pg} {y : Pts}
theorem e2q : HP L B (MN p y) [81] = some (.cells 138 8 [anR p]) := a5q (by rw [b8r yb]; exact f8g p y false)
theorem g5m : HP L B (MN p y) [82] = some (.cells 136 1 (rowR y.regs)) := a5q (by rw [b8r yb]; exact e2k p y false)
theorem g5l {f : Nat} (h : f < y.regs.length) : HP L B (MN p y) [83, f] = some (.cells 141 1 (rowM f y.regs[f])) := a5q (by rw [b8r yd, e8i, A5n h]; rfl)
theorem g5k : HP L B (MN p y) [84] = some (.cells 141 1 (rowC y.cells)) := a5q (by rw [b8r yb]; exact e2j p y false)
theorem g1y (t : SL) : t.loc ≠ [88] := by cases t <;> simp [SL.loc]
theorem f1i (ht : t.ok y) : HP L B (MN p y) t.loc = some (mapO (getS y t)) := a5q (by rw [b8r (g1y t)]; exact e2i ht)
end
theorem e2g {o : FO} (h : MN p y l = some o) : l ≠ [88] /\ MF p y false l = some o := by
 unfold MN at h
 split at h
 . cases h
 . rename_i e; exact ⟨e, h⟩
theorem e2h {y' : Pts} (hy : Shp p y) (hy' : Shp p y') (l : FM.Loc) (h : MN p y l ≠ none) : MN p y' l ≠ none := by
 by_cases e : l = [88]
 . subst e; exact absurd rfl h
 . rw [b8r e] at h ⊢
   exact d1s hy hy' false false l h
theorem g1o (hy : Shp p y) : ∀ l o, MN p y l = some o -> ninO (fun l => MN p y l ≠ none) o := fun l o h => by
 have h1 := (e2g h).2
 have hne := (e2g h).1
 have up : ∀ q, q ≠ [88] -> MF p y false q ≠ none -> MN p y q ≠ none := fun q e hq => by rw [b8r e]; exact hq
 have key : ∀ (U : FM.Loc -> Prop) (xs : List (List FV)), (∀ r ∈ xs, nins U r) -> a1h U xs := by
  intro U xs
  induction xs with
  | nil => intro _; trivial
  | cons r xs ih => intro h; exact ⟨h r yd, ih fun r hr => h r (by simp [hr])⟩
 unfold MF at h1
 split at h1
 . obtain rfl := A5o h1
   refine ⟨⟨a3k _, a3j _, a1a _, trivial, a1i _, up _ yb (by rw [e8h]; simp), up _ yb (by rw [e2k]; simp), up _ yb (by rw [e2j]; simp), trivial⟩, trivial⟩
 . obtain rfl := A5o h1
   refine key _ _ fun r hr => ?_
   obtain ⟨i, hi, rfl⟩ := A0g hr
   rw [b1d hi]
   rw [a3b] at hi
   exact ⟨up _ yd (by rw [e8i, A5n hi]; simp), trivial⟩
 . rw [A5q] at h1
   obtain ⟨r, hr, rfl⟩ := h1
   refine key _ _ fun q hq => ?_
   obtain ⟨i, hi, rfl⟩ := A0g hq
   rw [b1e hi]
   rw [a4b] at hi
   exact ⟨up _ yd z43, trivial⟩
 . obtain rfl := A5o h1
   refine key _ _ fun q hq => ?_
   obtain ⟨i, hi, rfl⟩ := A0g hq
   rw [b1f hi]
   rw [a4c] at hi
   exact ⟨up _ yd (by rw [f8f, A5n hi]; simp), trivial⟩
 . rw [A5q] at h1
   obtain ⟨r, hr, rfl⟩ := h1
   exact a1f _ _
 . rw [A5q] at h1
   obtain ⟨r, hr, rfl⟩ := h1
   exact a1f _ _
 . obtain rfl := A5o h1
   exact c3b _ _
 . exact absurd rfl hne
 . cases h1
theorem e1c (hy : Shp p y) (hB : ∀ l o, B l = some o -> ninO (fun l => ext B (MN p y) l ≠ none) o) : Clo (ext B (MN p y)) := fun l o hl => by
 rw [a1m] at hl
 cases e : MN p y l with
 | none => rw [e] at hl; exact hB l o hl
 | some o' =>
   rw [e] at hl
   obtain rfl := A5o hl
   refine a1t (fun q hq => ?_) (g1o hy l o' e)
   obtain ⟨o2, h2⟩ := A0x.1 hq
   rw [a6h h2]; simp
abbrev BsN (p : Pg) (j : Nat) (B : Heap) : Prop := ∀ y y', Shp p y -> Shp p y' -> Bs (inH (HP [] B (MN p y))) j B (MN p y')
theorem bsMN (hy : Shp p y) (j : Nat) (hj : j <= 20) : Bs (fun _ => False) j noH (MN p y) :=
 ⟨fun _ _ _ => rfl, fun k r hk => b3a p y k r ya, e1c hy fun _ _ h => zr, fun _ h => h.elim⟩
theorem bsN0 (p : Pg) (j : Nat) (hj : j <= 20) : BsN p j noH := fun y y' hy hy' =>
 ⟨fun _ _ _ => rfl, fun k r hk => b3a p y' k r ya, e1c hy' fun _ _ h => zr, fun l hl hn => by
  have hl : HP [] noH (MN p y) l ≠ none := hl
  rw [a0s] at hn
  refine hl (a2c.2 ⟨?_, rfl⟩)
  cases e : MN p y l with
  | none => rfl
  | some o => exact absurd hn.1 (e2h hy hy' l z1e)⟩
theorem BsN.call {p : Pg} {j : Nat} {B : Heap} {L : LF} (i : Nat) (hB : BsN p j B) (hi : i < j) {y : Pts} (hy : Shp p y) (hl : hdN j (L.map Prod.fst) = true) (ho : ninL (inH (HP L B (MN p y))) L) : BsN p i (updL L B) := fun yl1 yl2 h1 h2 => by
 have hup : ∀ y', Shp p y' -> ∀ q, HP L B (MN p y) q ≠ none -> HP L B (MN p y') q ≠ none := fun y' hy' q hq hn => by
  rw [a2c] at hn
  refine hq (a2c.2 ⟨?_, hn.2⟩)
  cases e : MN p y q with
  | none => rfl
  | some o => exact absurd hn.1 (e2h hy hy' q z1e)
 exact Bs.call (A := MN p yl1) (L := L) i (hB yl1 yl2 h1 h2) hi hl (by
  have : ∀ {L' : LF}, ninL (inH (HP L B (MN p y))) L' -> ninL (fun l => HP L B (MN p yl2) l ≠ none) L' := by
   intro L'
   induction L' with
   | nil => intro _; trivial
   | cons q r ih => intro h; exact ⟨a1t (fun l hl => hup yl2 h2 l hl) h.1, ih h.2⟩
  exact this ho) fun l hl => e2h h1 h2 l hl
theorem set_set (a b : List Int) : setS (setS y t a) t b = setS y t b := by
 cases t with
 | r f i =>
   simp only [setS, setR]
   congr 1
   by_cases hf : f < y.regs.length
   . simp [a3t, hf]
   . rw [List.set_eq_of_length_le (by simpa using hf), List.set_eq_of_length_le ya, List.set_eq_of_length_le ya]
 | c o => simp [setS, setC]
theorem f9y {s : SL} (a : List Int) (h : s.ok y) : s.ok (setS y t a) := by
 cases s with
 | r f i =>
   obtain ⟨h1, h2⟩ := h
   cases t with
   | r g k =>
     refine ⟨by simpa [setS, setR] using h1, ?_⟩
     simp only [setS, setR, a3t]
     split
     . rename_i e; rw [A0h, e.1]; exact h2
     . exact h2
   | c o => exact ⟨h1, h2⟩
 | c o =>
   have h : o < y.cells.length := h
   cases t with
   | r g k => exact h
   | c q => show o < _; simpa [setS, setC] using h
def z2r := cj @ze (cj @a8u (cj @b3a (cj @a0q (cj @e2q (cj @g5m (cj @g5l (cj @g5k @wy)))))))
def mt (n : Nat) : List (List Int) := List.replicate n []
def MA (c : Nat) (R : List Nat) (r : Nat) : Heap := fun l => match l with
 | [83, f] => (R[f]?).map fun n => .cells 141 1 (rowM f (mt n))
 | [85, f, i] => if i < R.getD f 0 \/ (f = R.length /\ i < r) then some (mapO []) else none
 | [86, o] => if o < c then some (mapO []) else none
 | _ => none
theorem b3y (c : Nat) (R : List Nat) (r : Nat) (k : Nat) (s : List Nat) (hk : k <= 82) : MA c R r (k :: s) = none := by
 unfold MA
 split <;> first | rfl | (rename_i h; simp at h; omega)
theorem e8m (c : Nat) (R : List Nat) (r : Nat) (s : List Nat) : MA c R r (84 :: s) = none := by
 unfold MA
 split <;> first | rfl | (rename_i h; simp at h)
theorem e8j (c : Nat) (R : List Nat) (r : Nat) (s : List Nat) : MA c R r (87 :: s) = none := by
 unfold MA
 split <;> first | rfl | (rename_i h; simp at h)
theorem MA_0 : MA 0 [] 0 = noH := by
 funext l
 unfold MA
 split <;> simp [noH]
theorem e8k (c : Nat) (R : List Nat) (r o : Nat) : MA c R r [86, o] = if o < c then some (mapO []) else none := id (Eq.refl _)
theorem f8h (c : Nat) (R : List Nat) (r f : Nat) : MA c R r [83, f] = (R[f]?).map fun n => .cells 141 1 (rowM f (mt n)) := id (Eq.refl _)
theorem e8l (c : Nat) (R : List Nat) (r f i : Nat) : MA c R r [85, f, i] = if i < R.getD f 0 \/ (f = R.length /\ i < r) then some (mapO []) else none := id (Eq.refl _)
theorem MA_c (c : Nat) (R : List Nat) (r : Nat) : upd (MA c R r) [86, c] (mapO []) = MA (c + 1) R r := by
 funext l
 unfold upd
 by_cases e : l = [86, c]
 . subst e; rw [if_pos rfl, e8k, if_pos ya]
 . rw [if_neg e]
   unfold MA
   split
   . rfl
   . rfl
   . rename_i o
     have : o ≠ c := fun h => e z1b
     by_cases h1 : o < c
     . rw [if_pos h1, if_pos ya]
     . rw [if_neg h1, if_neg ya]
   . rfl
theorem MA_r (c : Nat) (R : List Nat) (r : Nat) : upd (MA c R r) [85, R.length, r] (mapO []) = MA c R (r + 1) := by
 funext l
 unfold upd
 by_cases e : l = [85, R.length, r]
 . subst e; rw [if_pos rfl, e8l, if_pos (.inr ⟨rfl, by omega⟩)]
 . rw [if_neg e]
   unfold MA
   split
   . rfl
   . rename_i f i
     have : ¬ (f = R.length /\ i = r) := fun ⟨h1, h2⟩ => e (by rw [h1, h2])
     by_cases h1 : i < R.getD f 0 \/ (f = R.length /\ i < r)
     . rw [if_pos h1, if_pos ya]
     . rw [if_neg h1, if_neg ya]
   . rfl
   . rfl
theorem MA_R (c : Nat) (R : List Nat) (r : Nat) : upd (MA c R r) [83, R.length] (.cells 141 1 (rowM R.length (mt r))) = MA c (R ++ [r]) 0 := by
 funext l
 unfold upd
 by_cases e : l = [83, R.length]
 . subst e; rw [if_pos rfl, f8h]; simp
 . rw [if_neg e]
   unfold MA
   split
   . rename_i f
     have hf : f ≠ R.length := fun h => e z1b
     by_cases h1 : f < R.length
     . rw [A0f h1]
     . rw [A5y ya, A5y yz]
   . rename_i f i
     by_cases h1 : f < R.length
     . have : (R ++ [r]).getD f 0 = R.getD f 0 := by simp [A5m, A0f h1]
       rw [this]
       simp only [A0b, A1x]
       by_cases h2 : i < R.getD f 0
       . rw [if_pos (.inl h2), if_pos (.inl h2)]
       . rw [if_neg ya, if_neg ya]
     . by_cases h2 : f = R.length
       . subst h2
         simp
       . have e1 : R.getD f 0 = 0 := by simp [A5m, A5y (A4e h1)]
         have e2 : (R ++ [r]).getD f 0 = 0 := by rw [A5m, A5y yz]; rfl
         rw [e1, e2]
         simp [h2]
   . rfl
   . rfl
theorem d6e (n : Nat) : rowC (mt (n + 1)) = rowC (mt n) ++ [[.mp [86, n]]] := by
 have : mt (n + 1) = mt n ++ [[]] := by simp [mt, List.replicate_succ']
 rw [this]
 simp [rowC, A3s, mt]
theorem f3k (f n : Nat) : rowM f (mt (n + 1)) = rowM f (mt n) ++ [[.mp [85, f, n]]] := by
 have : mt (n + 1) = mt n ++ [[]] := by simp [mt, List.replicate_succ']
 rw [this]
 simp [rowM, A3s, mt]
def a7y (R : List Nat) : List (List FV) := R.mapIdx fun f n => [.sl [83, f] 1 0 n]
theorem d2k (R : List Nat) (n : Nat) : a7y (R ++ [n]) = a7y R ++ [[.sl [83, R.length] 1 0 n]] := by simp [a7y, A3s]
theorem b4d (R : List Nat) : (a7y R).length = R.length := by simp [a7y]
theorem b2i (n : Nat) : (mt n).length = n := by simp [mt]
theorem c0l (R : List Nat) : a7y R = rowR (R.map mt) := by
 refine A0e (by simp [a7y, rowR]) fun i h1 h2 => ?_
 simp [a7y, rowR, mt]
theorem c4n (r : List (List Int)) : (rowC r).flatten.all FV.cellV = true := by
 rw [List.all_eq_true]
 intro v hv
 obtain ⟨q, hq, hv⟩ := A4p.1 hv
 obtain ⟨i, hi, rfl⟩ := A0g hq
 rw [b1f hi] at hv
 simp at hv; subst hv; rfl
theorem c4m (f : Nat) (r : List (List Int)) : (rowM f r).flatten.all FV.cellV = true := by
 rw [List.all_eq_true]
 intro v hv
 obtain ⟨q, hq, hv⟩ := A4p.1 hv
 obtain ⟨i, hi, rfl⟩ := A0g hq
 rw [b1e hi] at hv
 simp at hv; subst hv; rfl
theorem b9q (R : List Nat) : (a7y R).flatten.all FV.cellV = true := by
 rw [c0l, List.all_eq_true]
 intro v hv
 obtain ⟨q, hq, hv⟩ := A4p.1 hv
 obtain ⟨i, hi, rfl⟩ := A0g hq
 rw [b1d hi] at hv
 simp at hv; subst hv; rfl
theorem b2h {U : FM.Loc -> Prop} : ∀ {xs : List (List FV)}, (∀ r ∈ xs, nins U r) -> a1h U xs
 | [], _ => trivial
 | r :: xs, h => ⟨h r yd, b2h fun r hr => h r (by simp [hr])⟩
theorem e9i (n : Nat) (h : ∀ g, g < n -> U [86, g]) : a1h U (rowC (mt n)) := b2h fun r hr => by
 obtain ⟨i, hi, rfl⟩ := A0g hr
 rw [b1f hi]
 rw [a4c, b2i] at hi
 exact ⟨h i hi, trivial⟩
theorem d6d (f n : Nat) (h : ∀ g, g < n -> U [85, f, g]) : a1h U (rowM f (mt n)) := b2h fun r hr => by
 obtain ⟨i, hi, rfl⟩ := A0g hr
 rw [b1e hi]
 rw [a4b, b2i] at hi
 exact ⟨h i hi, trivial⟩
theorem d5z (R : List Nat) (h : ∀ g, g < R.length -> U [83, g]) : a1h U (a7y R) := b2h fun r hr => by
 rw [c0l] at hr
 obtain ⟨i, hi, rfl⟩ := A0g hr
 rw [b1d hi]
 rw [a3b, A1l] at hi
 exact ⟨h i hi, trivial⟩
section
variable {β : FM.Loc -> Option FM.Loc} {U : FM.Loc -> Prop}
theorem a8a (h : ∀ g, g < n -> β [86, g] = some [86, g]) : renss β (rowC (mt n)) = rowC (mt n) := a9i (U := fun l => ∃ g, g < n /\ l = [86, g]) (e9i n fun g hg => ⟨g, hg, rfl⟩) fun l ⟨g, hg, e⟩ => by rw [e]; exact h g hg
theorem e6a (h : ∀ g, g < n -> β [86, g] = some [86, g]) (hU : ∀ g, g < n -> U [86, g]) : a3z β U (rowC (mt n)) := a9s (U := fun l => ∃ g, g < n /\ l = [86, g]) (e9i n fun g hg => ⟨g, hg, rfl⟩) (fun l ⟨g, hg, e⟩ => by rw [e]; exact h g hg) fun l ⟨g, hg, e⟩ => by rw [e]; exact hU g hg
theorem c8w (h : ∀ g, g < n -> β [85, f, g] = some [85, f, g]) : renss β (rowM f (mt n)) = rowM f (mt n) := a9i (U := fun l => ∃ g, g < n /\ l = [85, f, g]) (d6d f n fun g hg => ⟨g, hg, rfl⟩) fun l ⟨g, hg, e⟩ => by rw [e]; exact h g hg
theorem e5z (h : ∀ g, g < n -> β [85, f, g] = some [85, f, g]) (hU : ∀ g, g < n -> U [85, f, g]) : a3z β U (rowM f (mt n)) := a9s (U := fun l => ∃ g, g < n /\ l = [85, f, g]) (d6d f n fun g hg => ⟨g, hg, rfl⟩) (fun l ⟨g, hg, e⟩ => by rw [e]; exact h g hg) fun l ⟨g, hg, e⟩ => by rw [e]; exact hU g hg
theorem b2e (h : ∀ g, g < R.length -> β [83, g] = some [83, g]) : renss β (a7y R) = a7y R := a9i (U := fun l => ∃ g, g < R.length /\ l = [83, g]) (d5z R fun g hg => ⟨g, hg, rfl⟩) fun l ⟨g, hg, e⟩ => by rw [e]; exact h g hg
theorem d8o (h : ∀ g, g < R.length -> β [83, g] = some [83, g]) (hU : ∀ g, g < R.length -> U [83, g]) : a3z β U (a7y R) := a9s (U := fun l => ∃ g, g < R.length /\ l = [83, g]) (d5z R fun g hg => ⟨g, hg, rfl⟩) (fun l ⟨g, hg, e⟩ => by rw [e]; exact h g hg) fun l ⟨g, hg, e⟩ => by rw [e]; exact hU g hg
end
theorem c9n (l : List (Int × Int)) : nle (sitE l) = true := by
 unfold nle
 rw [List.all_eq_true]
 intro e he
 rw [sitE, List.mem_mapIdx] at he
 obtain ⟨i, h, rfl⟩ := he
 rfl
structure BsS (B : Heap) : Prop where
 fr : ∀ k r, k <= 6 -> B (k :: r) = none
 f8 : ∀ k r, 81 <= k -> k <= 88 -> B (k :: r) = none
 clo : Clo B
theorem b9o (hB : BsS B) (c : Nat) (R : List Nat) (r : Nat) : Clo (ext B (MA c R r)) := fun l o hl => by
 rw [a1m] at hl
 have up : ∀ k, MA c R r k ≠ none -> ext B (MA c R r) k ≠ none := fun k hk => by
  obtain ⟨o', ho'⟩ := A0x.1 hk
  rw [a6h ho']; simp
 cases e : MA c R r l with
 | none =>
   rw [e] at hl
   refine a1t (fun q hq => ?_) (hB.clo l o hl)
   rw [a1m]
   cases MA c R r q <;> simp [hq]
 | some o' =>
   rw [e] at hl
   obtain rfl := A5o hl
   unfold MA at e
   split at e
   . rename_i f
     rw [A5q] at e
     obtain ⟨n, hn, rfl⟩ := e
     exact d6d f n fun g hg => up _ (by rw [e8l, if_pos (.inl (by simp [A5m, hn, hg]))]; simp)
   . split at e
     . obtain rfl := A5o e; exact a1f _ _
     . cases e
   . split at e
     . obtain rfl := A5o e; exact a1f _ _
     . cases e
   . cases e
theorem c4x (hB : BsS B) (c : Nat) (R : List Nat) (r : Nat) : Bs (inH (HP [] B noH)) 6 B (MA c R r) :=
 ⟨hB.fr, fun k s hk => b3y c R r k s ya, b9o hB c R r, fun l hl => by
  have hl : HP [] B noH l ≠ none := hl
  have e : HP [] B noH l = B l := rfl
  rw [e] at hl
  rw [a1m]
  cases MA c R r l <;> simp [hl]⟩
theorem c2n (hB : BsS B) (c : Nat) (R : List Nat) (r : Nat) (s : List Nat) : ext B (MA c R r) (6 :: s) = none := a0s.2 ⟨b3y c R r 6 s yb, hB.fr 6 s yb⟩
theorem e2o {nm : FM.Loc} {ob : FO} (h : A nm = none) : HP ((nm, ob) :: L) B A = HP L B (upd A nm ob) := by
 funext k
 unfold HP
 rw [a1m, a1m]
 by_cases e : k = nm
 . subst e; simp [h, updL, upd]
 . simp [updL, upd, e]
theorem c1i {c : Cfg} {σ : Type} {vs0 vs : List FV} {tm0 tm : Asg} {L0 : LF} {ix : List Nat} {sv : σ -> List (Nat × FV)} {kt : List Nat} {st : σ -> Asg} {dl : List FM.Loc} {sh : σ -> LF} {fA : σ -> Heap} {x : σ} (nm k0 : FM.Loc) (ob : FO) (b : List (FM.Loc × Option FM.Loc)) (hfr : ∀ s, ext B A (j :: s) = none) (hnm : ext B A nm = none) (hcl : Clo (ext B A)) (hc : ∀ l, c.L l -> ext B A l ≠ none)
 (hfA : fA x = upd A nm ob) (hn : hdN j ((a2n (sh x) (delL dl L0)).map Prod.fst ++ k0 :: b.map Prod.fst ++ b.filterMap Prod.snd) = true) (hl : hdN j (L.map Prod.fst) = true)
 (hinj : injB (bk ((nm, some k0) :: b)) (nm :: (a2n (sh x) (delL dl L0)).map Prod.fst) = true)
 (hv : a7m (bk ((nm, some k0) :: b)) (inH (HP ((nm, ob) :: a2n (sh x) (delL dl L0)) B A)) (setV (sv x) vs0) vs)
 (ht : simT (bk ((nm, some k0) :: b)) (inH (HP ((nm, ob) :: a2n (sh x) (delL dl L0)) B A)) vs.length tm (st x ++ a6s kt tm0))
 (hH : simH (bk ((nm, some k0) :: b)) (inH (HP ((nm, ob) :: a2n (sh x) (delL dl L0)) B A)) (HP L B A) ((nm, ob) :: a2n (sh x) (delL dl L0))) : Gk c (lpS vs0 tm0 L0 B sv kt st dl sh fA x) ⟨vs, tm, HP L B A, ix⟩ := by
 have hd := a4z hn
 refine gk5 (L1 := (nm, ob) :: a2n (sh x) (delL dl L0)) ((nm, some k0) :: b) ?_ hinj (fun n hn' => ?_) (fun p hp => ?_) hcl hc hv ht hH
 . rw [hfA]; exact e2o (a0s.1 hnm).1
 . simp only [A1m, A4i, A0o, A0m] at hn'
   rcases hn' with (((rfl | h) | (rfl | h)) | (e0 | h))
   . exact hnm
   . obtain ⟨r, rfl⟩ := hd n (A1o _ (A1o _ h)); exact hfr r
   . exact hnm
   . obtain ⟨r, rfl⟩ := hd n (A1o _ (A2f _ (A2t _ h))); exact hfr r
   . obtain ⟨r, rfl⟩ := hd n z44; exact hfr r
   . obtain ⟨r, rfl⟩ := hd n (A2f _ h); exact hfr r
 . obtain ⟨r, hr⟩ := a4z hl p.1 (A1t.2 ⟨p, hp, rfl⟩)
   rw [hr]; exact hfr r
def z1h := cj @a7j (cj @b4p (cj @b3y (cj @e8m @e8j)))
theorem e9c (fs : List FnD) : ∀ i, i <= fs.length -> ((sitP fs i).drop 1).Nodup /\ ∀ s ∈ (sitP fs i).drop 1, s.1 < (i : Int)
 | 0, _ => by simp [sitP]
 | i + 1, h => by
   obtain ⟨h1, h2⟩ := e9c fs i ya
   have hpos := c8j fs i
   rw [c8i (show i < fs.length by omega), A4z ya]
   have hc : ∀ s ∈ sitC i fs[i].code fs[i].code.length, s.1 = (i : Int) := fun s hs => by
    simp only [sitC, A1t] at hs
    obtain ⟨k, _, rfl⟩ := hs
    rfl
   refine ⟨?_, fun s hs => ?_⟩
   . rw [List.nodup_append]
     refine ⟨h1, ?_, fun a ha b hb e => ?_⟩
     . unfold sitC
       rw [A5c, List.pairwise_map]
       refine ((A5c.1 List.nodup_range).filter _).imp ?_
       intro a b hab e
       simp only [A0i] at e
       exact hab ya
     . have := h2 a ha
       have := hc b hb
       rw [e] at *
       omega
   . rcases A0o.1 hs with hs | hs
     . have := h2 s hs; omega
     . have := hc s hs; omega
theorem e3y (hi : i < (a0a p).length) (h0 : 0 < i) : (a0a p)[i] ∉ ((a0a p).take i).drop 1 := fun hm => by
 have hnd := (e9c p.fu p.fu.length (A5s _)).1
 have hnd : ((a0a p).drop 1).Nodup := hnd
 obtain ⟨j, hj, e⟩ := A0g hm
 rw [A1y, A0j] at hj
 rw [A4b, List.getElem_take] at e
 have := (A5b.1 (A5c.1 hnd)) j (i - 1) yz yz ya
 rw [A4b, A4b] at this
 apply this
 rw [e]
 congr 1
 omega
theorem e4t {H : Heap} {nm : FM.Loc} {l : List (Int × Int)} {c : Nat} (h : H nm = some (.map (sitE l) c)) (hc : c = l.length - 1) (hl : 0 < l.length) {s : Int × Int} (hn : s ∉ l.drop 1) {k : Int} (hk : k = (l.length : Int)) : b0z Tp H 134 (.mp nm) (.agg [.int .i64 s.1, .int .i64 s.2]) (.int .i64 k) = some ([(nm, .map (sitE (l ++ [s])) l.length)], .undef) := by
 have hko : a8h Tp 98 (.agg [.int .i64 s.1, .int .i64 s.2]) = true := by simp [a8h, c1v, c1u]
 have hf := f6g s.1 s.2 1 (l.drop 1) (fun i => i) 0
 have hx : (l.drop 1).findIdx? (fun y => decide (y = (s.1, s.2))) = none := by
  rw [List.findIdx?_eq_none_iff]
  intro y hy
  simp only [decide_eq_false_iff_not]
  rintro rfl
  exact hn hy
 rw [hx] at hf
 have e1 : ((1 : Nat) : Int) = 1 := rfl
 rw [e1] at hf
 have hf' : a7h Tp 98 (.agg [.int .i64 s.1, .int .i64 s.2]) (sitE l) 0 = some none := hf
 have hsn : sitE (l ++ [s]) = sitE l ++ [(.agg [.int .i64 s.1, .int .i64 s.2], .int .i64 k, c)] := by
  unfold sitE
  rw [A4z ya, A3s]
  simp only [A3n, List.mapIdx_nil, A1y]
  congr 3
  subst hk hc
  have : ((0 + (l.length - 1) : Nat) : Int) + 1 = (l.length : Int) := by omega
  rw [this]
  simp
 simp only [b0z, c4h, h, hko, if_true, hf', hsn]
 have : c + 1 = l.length := by omega
 rw [this]
section
variable {β : FM.Loc -> Option FM.Loc} {L : LF} {B : Heap} {c : Nat} {R : List Nat} {r : Nat}
theorem a6e (hn : n <= c) (h : ∀ g, g < n -> β [86, g] = some [86, g]) : a3z β (inH (HP L B (MA c R r))) (rowC (mt n)) := e6a h fun g hg => a1g (a5q (ob := mapO []) (by rw [e8k, if_pos ya]))
theorem c4c (hn : (f = R.length /\ n <= r) \/ n <= R.getD f 0) (h : ∀ g, g < n -> β [85, f, g] = some [85, f, g]) : a3z β (inH (HP L B (MA c R r))) (rowM f (mt n)) := e5z h fun g hg => a1g (a5q (ob := mapO []) (by rw [e8l, if_pos ya]))
theorem b0q (h : ∀ g, g < R.length -> β [83, g] = some [83, g]) : a3z β (inH (HP L B (MA c R r))) (a7y R) := d8o h fun g hg => a1g (a5q (ob := .cells 141 1 (rowM g (mt R[g]))) (by rw [f8h, A5n hg]; rfl))
end
theorem g5g {c : Nat} {r : Nat} (k : Nat) (hk : k = 88) {s : List Nat} : MA c R r (k :: s) = none := by
 unfold MA
 split <;> first | rfl | (rename_i h; simp at h; omega)
def Rf (p : Pg) (f : Nat) : List Nat := (p.fu.take f).map fun d => d.regs.toNat
theorem Rf_0 (p : Pg) : Rf p 0 = [] := rfl
theorem f1h (h : f <= p.fu.length) : (Rf p f).length = f := by simp [Rf]; omega
theorem Rf_s {nr : Nat} (h : f < p.fu.length) (hnr : p.fu[f].regs = (nr : Int)) : Rf p (f + 1) = Rf p f ++ [nr] := by
 unfold Rf
 rw [A0y, A5n h, A1s]
 congr 1
 simp [hnr]
theorem Rf_g (h : f <= p.fu.length) : (Rf p f).getD f 0 = 0 := by
 rw [A5m, A5y (by rw [f1h h]; omega)]; rfl
theorem h0o (hp : VOk p) (hB : BsS B) : HP [([81], .cells 138 8 [anR p]), ([82], .cells 136 1 (a7y (Rf p p.fu.length))), ([84], .cells 141 1 (rowC (mt (a0a p).length))), ([87], .map (sitE (a0a p)) ((a0a p).length - 1))] B (MA (a0a p).length (Rf p p.fu.length) 0) = HP [] B (MN p (a2p p)) := by
 have hR : Rf p p.fu.length = p.fu.map fun d => d.regs.toNat := by simp [Rf]
 have hRm : (a2p p).regs = (Rf p p.fu.length).map mt := by
  rw [hR, List.map_map]; rfl
 have hC : (a2p p).cells = mt (a0a p).length := rfl
 funext k
 unfold HP
 rw [a1m, a1m]
 by_cases e88 : k = [88]
 . subst e88
   have e1 : MN p (a2p p) [88] = none := rfl
   rw [e1, g5g 88 yb]
   rfl
 rw [b8r e88]
 by_cases e81 : k = [81]
 . subst e81; rw [b3y _ _ _ 81 _ yb, f8g]; simp [updL, upd]
 by_cases e82 : k = [82]
 . subst e82; rw [b3y _ _ _ 82 _ yb, e2k, hRm, <- c0l]; simp [updL, upd]
 by_cases e84 : k = [84]
 . subst e84; rw [e8m, e2j, hC]; simp [updL, upd]
 by_cases e87 : k = [87]
 . subst e87; rw [e8j, e8h]; simp [updL, upd]
 have hlow : updL [([81], FO.cells 138 8 [anR p]), ([82], .cells 136 1 (a7y (Rf p p.fu.length))), ([84], .cells 141 1 (rowC (mt (a0a p).length))), ([87], .map (sitE (a0a p)) ((a0a p).length - 1))] B k = updL [] B k := by simp [updL, upd, e81, e82, e84, e87]
 rw [hlow]
 have key : MA (a0a p).length (Rf p p.fu.length) 0 k = MF p (a2p p) false k := by
  unfold MA MF
  split
  . rename_i f
    simp only [hRm, A1j, Option.map_map]; rfl
  . rename_i f i
    simp only [hRm, A1j]
    by_cases h1 : f < (Rf p p.fu.length).length
    . simp only [A5n h1, A0s, A2j, A5m, A5z]
      by_cases h2 : i < (Rf p p.fu.length)[f]
      . rw [if_pos (.inl h2)]
        simp [mt, h2]
      . rw [if_neg ya]
        simp [mt, h2]
    . simp only [A5y (A4e h1), A5m]
      simp
  . rename_i o
    rw [hC]
    by_cases h1 : o < (a0a p).length
    . simp [mt, h1]
    . simp [mt, h1]
  . split <;> first | rfl | (rename_i h; simp_all)
 rw [key]
theorem gk5i {c : Cfg} {vs1 vs : List FV} {tm1 tm : Asg} {L1 : LF} {H1 : Heap} {ix1 ix : List Nat} (b : List (FM.Loc × Option FM.Loc)) (hH1 : HP L1 B A = H1) (hinj : injB (bk b) (L1.map Prod.fst) = true) (hN : ∀ n ∈ L1.map Prod.fst ++ b.map Prod.fst ++ b.filterMap Prod.snd, ext B A n = none) (hl : ∀ p ∈ L, ext B A p.1 = none)
 (hcl : Clo (ext B A)) (hc : ∀ l, c.L l -> ext B A l ≠ none) (hv : a7m (bk b) (inH (HP L1 B A)) vs1 vs) (ht : simT (bk b) (inH (HP L1 B A)) vs.length tm tm1) (hH : simH (bk b) (inH (HP L1 B A)) (HP L B A) L1) : Gk c (Fs.mk vs1 tm1 H1 ix1) ⟨vs, tm, HP L B A, ix⟩ := gk5 b hH1 hinj hN hl hcl hc hv ht hH
theorem e3u (l : FM.Loc) (h : HP [] B noH l ≠ none) : HP [] B (MN p (a2p p)) l ≠ none := fun e => by
 obtain ⟨_, h2⟩ := a2c.1 e
 exact h (a2c.2 ⟨rfl, h2⟩)
theorem a4e (hp : VOk p) : Gv.Form p (a2p p) := by
 refine ⟨rfl, by simp [a2p], by simp [a2p], fun f h h' => ?_, fun f h s hs => ?_, fun s hs => ?_⟩
 . have := (hp.regs (A5p h')).p0
   have := (hp.regs (A5p h')).p1
   simp [a2p]; omega
 . simp [a2p] at hs
   rw [hs.2]
   exact ⟨List.Pairwise.nil, by simp⟩
 . simp [a2p] at hs
   rw [hs.2]
   exact ⟨List.Pairwise.nil, by simp⟩
theorem e1a (hp : VOk p) (hB : BsS B) : Clo (HP [] B (MN p (a2p p))) := by
 show Clo (ext B (MN p (a2p p)))
 exact e1c (a4e hp).shp fun l o h => a1t (fun q hq => by rw [a1m]; cases MN p (a2p p) q <;> simp [hq]) (hB.clo l o h)
theorem e9f : sitE [] = [] := rfl
theorem e9j : rowC (mt 0) = [] := rfl
theorem e9h (f : Nat) : rowM f (mt 0) = [] := rfl
theorem d6a : a7y [] = [] := rfl
theorem e9e {l : List (Int × Int)} : sitE (l.take 1) = [] := by cases l <;> rfl
def z1i := cj @a8u (cj @c9n (cj @a1i (cj @a3k (cj @a3j (cj @a1a (cj @a2f (cj @a4c (cj @a4b (cj @b4d (cj @b2i (cj @e9j (cj @e9h (cj @d6a (cj @e9f (cj @e9e (cj @MA_0 (cj @d6m @d8n)))))))))))))))))
theorem zW {P : Prop} (h : P := by have r1 := a8a (β := bk [([6, 1002], none)]) (n := (a0a p).length) (fun g hg => by simp [bk]; try omega); simp only [bk] at r1; have n1 := fun (L : List (FM.Loc × FO)) => a6e (β := bk [([6, 1002], none)]) (L := L) (B := B) (c := (a0a p).length) (R := []) (r := 0) (n := (a0a p).length) (by omega) (fun g hg => by simp [bk]; try omega); simp only [bk] at n1; first | rfl | simp [LPXB, *, SIMB, hdN, injB, bk_n, bk_c, fB, z1h, hdN, z1i, A0v, Rf_0] <;> fail) : P := h
theorem f2c (hp : VOk p) (hB : BsS B) : FC Tp Gl 89 [PA p] (HP [] B noH) (.ptr [81] 8 0 0) (HP [] B (MN p (a2p p))) := by
 have hsv := a0h hp
 have hpos := a5z p
 have fB : ∀ r, B (6 :: r) = none := fun r => hB.fr 6 r yb
 have hnf := hp.nf
 have hpt : ∀ (i : Nat) (hi : i < (a0a p).length) (h0 : 0 < i) (H : Heap), H [6, 12] = some (.map (sitE ((a0a p).take i)) (i - 1)) -> b0z Tp H 134 (.mp [6, 12]) (.agg [.int .i64 ((a0a p)[i]).1, .int .i64 ((a0a p)[i]).2]) (.int .i64 (i : Int)) = some ([([6, 12], .map (sitE ((a0a p).take i ++ [(a0a p)[i]])) ((a0a p).take i).length)], .undef) := fun i hi h0 H h => e4t h z2n z2n (e3y hi h0) z2n
 refine yv Tryz.f89 [.tmp 2] 9 72 [20, 19, 18, 47, 46, 45, 53, 52] 6 ?_
 repeat' first
  | (rw [hpt i hlt h _ (by simp [HPXB, bk_n, bk_c, fB, z1h, hdN, z1i, A0v])])
  | (refine yi ?_; refine a0e (σ := {i : Nat // i <= (a0a p).length}) (fun y => [(4, .undef), (5, .undef)]) [19, 18] (fun y => [(20, .int .i64 (y.1 : Int))]) [] (fun y => [([6, 12], .map (sitE ((a0a p).take y.1)) (y.1 - 1)), ([6, 14], .cells 138 8 [[.list 4 (fns p.fu), .list 2 (gbs p.gl), .list 1 (lays p.la), .int .i64 p.main, .list 2 (sits (a0a p)), .mp [6, 12], .nils, .sl [6, 1000] 1 0 y.1]]), ([6, 1000], .cells 141 1 (rowC (mt y.1)))]) (fun y => MA y.1 [] 0) (fun y => (a0a p).length - y.1) ⟨0, by simp⟩ (gk3i (j := 6) [([6, 1000], none)] (c4x hB _ _ _) yj yj yj yj yj yj yj) ?_; rintro ⟨i, hi⟩; simp only [lpS, LPXB]; (try dsimp only at hi); rcases cl2 hi ya with ⟨hlt, wi⟩ | ⟨hlt, rfl⟩; have hs := szn (n := i + 1) (k := 8) ya yb; have hs2 : i + 1 <= 4611686018427387904 := ya; have hcC := c4n (mt i))
  | (refine ye ?_; refine a0b (⟨i + 1, by omega⟩) (c1i (j := 6) [86, i] [6, 38] (mapO []) [([6, 1000], some [6, 40])] (c2n hB _ _ _) (a0s.2 ⟨by simp [e8k], hB.f8 86 _ yb yb⟩) (b9o hB _ _ _) (fun l hl => (c4x hB _ _ _).lent l hl) (MA_c i [] 0).symm yn yn yy z3g z3g z3g) yf)
  | (refine ye ?_; have h00 : i = 0 := ya; subst h00; refine a0b (⟨0 + 1, by omega⟩) (c1i (j := 6) [86, 0] [6, 38] (mapO []) [([6, 1000], some [6, 40])] (c2n hB _ _ _) (a0s.2 ⟨by simp [e8k], hB.f8 86 _ yb yb⟩) (b9o hB _ _ _) (fun l hl => (c4x hB _ _ _).lent l hl) (MA_c 0 [] 0).symm yn yn yy z3h z3h z3h) yf)
  | (refine yi ?_; refine a0e (σ := {f : Nat // f <= p.fu.length}) (fun y => [(7, .undef), (8, .undef)]) [46, 45] (fun y => [(47, .int .i64 (y.1 : Int))]) [] (fun y => [([6, 14], .cells 138 8 [[.list 4 (fns p.fu), .list 2 (gbs p.gl), .list 1 (lays p.la), .int .i64 p.main, .list 2 (sits (a0a p)), .mp [6, 12], .sl [6, 1002] 1 0 y.1, .sl [6, 1000] 1 0 (a0a p).length]]), ([6, 1002], .cells 136 1 (a7y (Rf p y.1)))]) (fun y => MA (a0a p).length (Rf p y.1) 0) (fun y => p.fu.length - y.1) ⟨0, by simp⟩ (gk3i (j := 6) [([6, 1002], none)] (c4x hB _ _ _) zW zW zW zW zW zW zW) ?_; rintro ⟨f, hf⟩; simp only [lpS, LPXB]; (try dsimp only at hf); have hRl := f1h hf; have hRg := Rf_g hf; have hcR := b9q (Rf p f); rcases cl2 hf ya with ⟨hlt, wf⟩ | ⟨hlt, rfl⟩; have hrr := hp.regs (A5p hlt); obtain ⟨nr, hnr⟩ : ∃ nr : Nat, (p.fu[f]'hlt).regs = (nr : Int) := ⟨(p.fu[f]'hlt).regs.toNat, by have := hrr.p0; have := hrr.p1; omega⟩; have hnr64 : nr <= 64 := (by have := hrr.r64; omega); have hRs := Rf_s hlt hnr; have hz := szn (n := f + 1) (k := 24) ya yb; have hz2 : f + 1 <= 4611686018427387904 := ya)
  | (refine yi ?_; refine a0e (σ := {r : Nat // r <= nr}) (fun y => [(8, .sl [6, 1001] 1 0 y.1)]) [52, 47, 46, 45] (fun y => [(53, .int .i64 (y.1 : Int))]) [] (fun y => [([6, 1001], .cells 141 1 (rowM f (mt y.1)))]) (fun y => MA (a0a p).length (Rf p f) y.1) (fun y => nr - y.1) ⟨0, by simp⟩ (gk3i (j := 6) [] (c4x hB _ _ _) z1x z1x z1x z1x z1x z1x z1x) ?_; rintro ⟨r, hr⟩; simp only [lpS, LPXB]; (try dsimp only at hr); rcases cl2 hr ya with ⟨hlr, wr⟩ | ⟨hlr, he⟩; rotate_left; subst r; rotate_left; have hy := szn (n := r + 1) (k := 8) ya yb; have hy2 : r + 1 <= 4611686018427387904 := ya; have hcM := c4m f (mt r))
  | (refine ye ?_; refine a0b (⟨r + 1, by omega⟩) (c1i (j := 6) [85, f, r] [6, 56] (mapO []) [([6, 1001], some [6, 58])] (c2n hB _ _ _) (a0s.2 ⟨by rw [e8l, if_neg (by rw [hRg]; omega)], hB.f8 85 _ yb yb⟩) (b9o hB _ _ _) (fun l hl => (c4x hB _ _ _).lent l hl) (by have h := MA_r (a0a p).length (Rf p f) r; rw [hRl] at h; exact h.symm) yn yn yy z3i z3i z3i) yf)
  | (refine ye ?_; refine a0b (⟨f + 1, by omega⟩) (c1i (j := 6) [83, f] [6, 1001] (.cells 141 1 (rowM f (mt nr))) [([6, 1002], some [6, 67])] (c2n hB _ _ _) (a0s.2 ⟨by rw [f8h, List.getElem?_eq_none (by rw [hRl]; omega)]; rfl, hB.f8 83 _ yb yb⟩) (b9o hB _ _ _) (fun l hl => (c4x hB _ _ _).lent l hl) (by have h := MA_R (a0a p).length (Rf p f) nr; rw [hRl] at h; rw [hRs]; exact h.symm) yn yn yy z3j z3j z3j) yf)
  | (with_reducible refine a9y (id := 19) fun K hK => ?_)
  | ((with_reducible refine wlH ?_); refine f8u (gk5i (vs1 := [.undef, .undef, .nilp, .ptr [81] 8 0 0, .undef, .undef, .undef, .undef, .undef]) (tm1 := []) (ix1 := []) (L1 := [([81], .cells 138 8 [anR p]), ([82], .cells 136 1 (a7y (Rf p p.fu.length))), ([84], .cells 141 1 (rowC (mt (a0a p).length))), ([87], .map (sitE (a0a p)) ((a0a p).length - 1))]) [([81], some [6, 14]), ([82], some [6, 1002]), ([84], some [6, 1000]), ([87], some [6, 12])] (h0o hp hB) yn (by intro n hn; simp at hn; (try dsimp only); rcases hn with rfl | rfl | rfl | rfl | rfl | rfl | rfl | rfl | rfl | rfl | rfl | rfl <;> simp [a0s, b3y, e8m, e8j, fB, hB.f8]) (by intro q hq; simp at hq; rcases hq with rfl | rfl | rfl | rfl | rfl <;> simp [a0s, b3y, fB]) (b9o hB _ _ _) (fun l hl => (c4x hB _ _ _).lent l hl) (by first | simp [*, z0t, fB, z1h, hdN, z1i, A0v, Rf_0] <;> fail | fail) z4a (by have r1 := a8a (β := bk [([81], some [6, 14]), ([82], some [6, 1002]), ([84], some [6, 1000]), ([87], some [6, 12])]) (n := (a0a p).length) (fun g hg => by simp [bk]; try omega); simp only [bk] at r1; have n1 := fun (L : LF) => a6e (β := bk [([81], some [6, 14]), ([82], some [6, 1002]), ([84], some [6, 1000]), ([87], some [6, 12])]) (L := L) (B := B) (c := (a0a p).length) (R := (Rf p p.fu.length)) (r := 0) (n := (a0a p).length) (by omega) (fun g hg => by simp [bk]; try omega); simp only [bk] at n1; have r2 := b2e (β := bk [([81], some [6, 14]), ([82], some [6, 1002]), ([84], some [6, 1000]), ([87], some [6, 12])]) (R := (Rf p p.fu.length)) (fun g hg => by simp [bk]; try omega); simp only [bk] at r2; have n2 := fun (L : LF) => b0q (β := bk [([81], some [6, 14]), ([82], some [6, 1002]), ([84], some [6, 1000]), ([87], some [6, 12])]) (L := L) (B := B) (c := (a0a p).length) (R := (Rf p p.fu.length)) (r := 0) (fun g hg => by simp [bk]; try omega); simp only [bk] at n2;  simp [*, z0t, fB, z1h, hdN, z1i, A0v, Rf_0, anR, hRl] <;> fail)) ?_; refine b3z ?_)
  | (refine zf ?_; refine ⟨HP [] B (MN p (a2p p)), ⟨rfl, rfl⟩, fun _ _ h => h, e3u, a1g e2q, e1a hp hB⟩)
  | with_reducible first | refine a0n (id := 1) 6 a0d yc fun K hK => ?_ | refine a0n (id := 6) 6 a0d yc fun K hK => ?_ | refine z1k ?_ | refine stpK ?_; intro K hK | refine stpC ?_; intro T E hT hE | refine stp2 ?_ ?_ <;> intro h | refine cpG (e3k hp) ?_ | refine yg ?_; clear hK K | refine yh ?_; clear hT hE T E
  | simp [*, -List.all_flatten, -List.all_eq_true, DEFM, bk_n, bk_c, fB, z1h, hdN, z1i, A0v, Rf_0, a2a, b4h, FnD.row, c0e, a9h, c4n, c4m, b9q]
theorem d4q (hF : FOk p f nm pa rg c) (hu64 : ∀ i, usC c i < 64) (hB : BsL f B) : FC Tp Gl 40 [PA p, .int .i64 f] (HP [] B noH) (.ptr [95, f] 11 0 0) (HP [([95, f], .cells 72 11 [[.list 4 (fns p.fu), .list 2 (gbs p.gl), .list 1 (lays p.la), .int .i64 p.main, .int .i64 f, .str nm, .int .i64 pa, .int .i64 rg, .list 5 (inss c), .sl [96, f] 1 0 c.length, .sl [97, f] 1 0 c.length]]), ([96, f], .cells 3 1 (ints (usL c))), ([97, f], .cells 68 1 (u64s (hdG 64 c)))] B noH) := by
 have hc := hF.hc
 have hf := hF.hf
 have he := hF.e
 have hfl := hF.h1
 have h1000 := hc.n1000
 have hbl := b3w c hc
 have hst0 := g6q hc
 have fB : ∀ r, B (5 :: r) = none := fun r => hB.fr 5 r (A5s _)
 have f95 := hB.f95
 have f96 := hB.f96
 have f97 := hB.f97
 have hfa : f < (fns p.fu).length := by rw [a2a]; exact hf
 obtain ⟨ord, hord, hol, tOrd⟩ := f2r (nm := nm) (pa := pa) (rg := rg) hc
 obtain ⟨ons, hons⟩ := ex_ (BitVec.allOnes 64)
 have hro := e4o
 rw [hons] at hro
 simp at hro
 refine yv Tryz.f40 [.tmp 4] 16 116 [37, 36, 35, 101, 100, 99] 5 ?_
 repeat' first
  | ((with_reducible refine g2d hB.toH ?_ ?_ ?_ ?_); (focus (simp [fB, f95, f96, f97]; done)); (focus (simp [HPXB]; done)); (focus (simp [nin, inH, HPXB]; done)); (focus (simp [ninL, ninO, a1h, nins, nin, z1o, a0g, a1p, a9m, a6c, a5t, inH, HPXB, bRow, *]; done)))
  | (refine yi ?_; refine a0e (σ := {j : Nat // j <= (blks c).length}) (fun y => [(5, .ptr [95, f] 11 0 0), (9, .undef), (10, .undef), (11, .undef), (12, .undef)]) [36, 35] (fun y => [(37, .int .i64 (y.1 : Int))]) [[5, 24]] (fun y => [([95, f], .cells 72 11 [[.list 4 (fns p.fu), .list 2 (gbs p.gl), .list 1 (lays p.la), .int .i64 p.main, .int .i64 f, .str nm, .int .i64 pa, .int .i64 rg, .list 5 (inss c), .sl [96, f] 1 0 (stJ c y.1), .sl [97, f] 1 0 (stJ c y.1)]]), ([96, f], .cells 3 1 (ints ((usL c).take (stJ c y.1)))), ([97, f], .cells 68 1 (u64s ((g0B 64 c).take (stJ c y.1))))]) (fun y => noH) (fun y => (blks c).length - y.1) ⟨0, by simp⟩ (gk5S [([95, f], some [5, 24]), ([96, f], none), ([97, f], none)] rfl hB.c5 hB.l5 zb zb yy zb zb zb) ?_; rintro ⟨j, hj⟩; simp only [lpS, LPXB]; (try dsimp only at hj); rcases a0c hj with hlt | ⟨hlt, e⟩; rotate_left; subst e; have hse := f3a c; have htu : (usL c).take c.length = usL c := A6a (by rw [a7b]; exact A5s _); have htg : (g0B 64 c).take c.length = g0B 64 c := A6a (by rw [a7g]; exact A5s _); simp only [hse, htu, htg]; rotate_left; have wj := wli hlt ya; obtain ⟨hBk, hBl⟩ := a8v hlt; have hBlt := hBk.lt; have hsj := c2y hlt; have hsn := g6p hc hlt; have hnum := hBk.num; obtain ⟨b1, hb1⟩ := ex_ ((blks c)[j].1); obtain ⟨b2, hb2⟩ := ex_ ((blks c)[j].2); rw [hb1] at hsj hBlt hnum; rw [hb2] at hsn hBlt hnum hBl; simp only [hsj]; rotate_left)
  | (refine yi ?_; refine a0e (σ := {i : Nat // b1 <= i /\ i <= b2}) (fun y => [(10, .int .i64 (y.1 : Int)), (11, .undef), (12, .undef)]) [36, 35, 37] (fun y => []) [] (fun y => [([95, f], .cells 72 11 [[.list 4 (fns p.fu), .list 2 (gbs p.gl), .list 1 (lays p.la), .int .i64 p.main, .int .i64 f, .str nm, .int .i64 pa, .int .i64 rg, .list 5 (inss c), .sl [96, f] 1 0 y.1, .sl [97, f] 1 0 y.1]]), ([96, f], .cells 3 1 (ints ((usL c).take y.1))), ([97, f], .cells 68 1 (u64s ((g0B 64 c).take y.1)))]) (fun y => noH) (fun y => b2 - y.1) ⟨b1, A5s _, by omega⟩ yg9 ?_; rintro ⟨i, hi1, hi2⟩; simp only [lpS, LPXB]; (try dsimp only at hi1 hi2); have hlu : ((usL c).take i).length = i := (by rw [A0j, a7b]; omega); have hlg : ((g0B 64 c).take i).length = i := (by rw [A0j, a7g]; omega); have htu : (ints ((usL c).take i)).take i = ints ((usL c).take i) := A6a (by rw [a0o]; omega); have htg : (u64s ((g0B 64 c).take i)).take i = u64s ((g0B 64 c).take i) := A6a (by rw [a3n]; omega); rcases a0c hi2 with hlti | ⟨hlti, e⟩; rotate_left; subst e; rotate_left; have hil : i < c.length := ya; have wi : IntKind.wrap .i64 ((i : Int) + 1) = (i : Int) + 1 := zh; have hsf := (hnum i hi1 hlti).1; have hus := c7p hil; rw [hsf] at hus; have htk := f9b hil; have hrl : i < (a2d c).length := (by rw [a4w]; exact hil); have hra := a7o hrl; have s1 : (i + 1 + (i + 1) / 4 + 192) * 8 <= 140737488355328 := ya; have s2 : i <= 4611686018427387903 := ya; have hg0 := b9l (N := 64) hil; have hgA : (a2d c)[i] = true -> 0 < i -> u64s ((g0B 64 c).take i) ++ [[.int .u64 (ons.toNat : Int)]] = u64s ((g0B 64 c).take (i + 1)) := (fun h1 h2 => g2x hil ((hg0.1 ⟨hra.1 h1, h2⟩).trans hons)); have hgB : ¬ ((a2d c)[i] = true /\ 0 < i) -> u64s ((g0B 64 c).take i) ++ [[.int .u64 0]] = u64s ((g0B 64 c).take (i + 1)) := (fun h => g2x (w := 0) hil (hg0.2 fun h2 => h ⟨hra.2 h2.1, h2.2⟩)); have hgC : (a2d c)[i] = false -> u64s ((g0B 64 c).take i) ++ [[.int .u64 0]] = u64s ((g0B 64 c).take (i + 1)) := (fun h => hgB fun h2 => by rw [h] at h2; exact absurd h2.1 yb); have hgD : ¬ 0 < i -> u64s ((g0B 64 c).take i) ++ [[.int .u64 0]] = u64s ((g0B 64 c).take (i + 1)) := (fun h => hgB fun h2 => h h2.2); clear hgB hra hg0; by_cases hlk : lkO c[i].op = true; rw [if_pos hlk] at hus; replace hus := hus.symm; rotate_left; rw [if_neg hlk] at hus; rw [hus] at htk; rotate_left)
  | (refine yi ?_; refine a0e (σ := {y : List (BitVec 64) × Bool // Hin 64 c y.1 /\ (y.2 = false -> y.1 = hdG 64 c)}) (fun y => [(13, .bool y.1.2), (15, .undef)]) [] (fun y => []) [] (fun y => [([97, f], .cells 68 1 (u64s y.1.1))]) (fun y => noH) (fun y => muG c y.1.1 y.1.2) ⟨(g0B 64 c, true), g2z hc, by simp⟩ yg9 ?_; rintro ⟨⟨g, m⟩, hI, hm⟩; simp only [lpS, LPXB]; (try dsimp only at hI hm); cases m; have hg := hm rfl; subst hg; rotate_left; have hgl := hI.len; rotate_left)
  | (refine yi ?_; refine a0e (σ := {y : Nat × (List (BitVec 64) × Bool) // y.1 <= ord.length /\ Csw 64 c ord y.1 g y.2.1 y.2.2}) (fun y => [(13, .bool y.1.2.2), (15, .undef)]) [100, 99] (fun y => [(101, .int .i64 (y.1.1 : Int))]) [] (fun y => [([97, f], .cells 68 1 (u64s y.1.2.1))]) (fun y => noH) (fun y => ord.length - y.1.1) ⟨(0, (g, false)), by simp, Csw.init hI⟩ yg9 ?_; rintro ⟨⟨k, g1, m1⟩, hk, hC⟩; simp only [lpS, LPXB]; (try dsimp only at hk hC); have hI1 := hC.run.run.inn; have hgl1 := hI1.len; rcases a0c hk with hlt | ⟨hlt, e⟩; rotate_left; subst e; have hmu := hC.mu; have hfin : m1 = false -> g1 = hdG 64 c := (fun h => by subst h; exact (hC.fin hc hord hI).1); rotate_left; have wk := wli hlt ya; obtain ⟨jb, hj1, hjl, hab, hle2, hC2⟩ := hC.step hc hord hlt; have hane : (blks c)[jb].1 + ((blks c)[jb].2 - (blks c)[jb].1) = (blks c)[jb].2 := ya; obtain ⟨⟨G, r⟩, hr⟩ := ex_ ((rndC c (blks c)[jb].1 g1 ((blks c)[jb].2 - (blks c)[jb].1))); rw [hr] at hC2; dsimp only at hC2; cases r; rw [Bool.false_or] at hC2; rotate_left; rw [Bool.true_or] at hC2; rotate_left)
  | (refine wg ?_; refine e7v rfl (f9h (U := .sl [96, f] 1 0 i) (I := .sl [97, f] 1 0 i) hF (BsH.callS hB.toH 2 yb yn y79) y80 hil hi1) ?_)
  | (refine wg ?_; refine e7u rfl y23 (f2e (g := g1) (a := (blks c)[jb].1) hF hu64 (BsH.toG (BsH.callS hB.toH 3 yb yn y79)) y80 y80 hgl1 hane hle2) ?_)
  | (refine ye ?_; refine a0b (⟨i + 1, by omega, by omega⟩) (gk5S [([96, f], some [5, 70]), ([97, f], some [5, 90])] rfl hB.c5 hB.l5 zb zb yy zb zb zb) yf)
  | (refine ye ?_; refine a0b (⟨j + 1, by omega⟩) (gk5S [] rfl hB.c5 hB.l5 zb zb yy zb zb zb) yf)
  | (refine ye ?_; refine a0b (⟨(k + 1, (G, true)), by omega, hC2⟩) yg9 yf)
  | (refine ye ?_; refine a0b (⟨(k + 1, (G, m1)), by omega, hC2⟩) yg9 yf)
  | (refine ye ?_; refine a0b (⟨(g1, m1), hI1, hfin⟩) yg9 yf)
  | (refine dk2 ?_; intro K hK)
  | refine dz9 ?_
  | (refine stpC ?_; intro T E hT hE)
  | (refine stp2 ?_ ?_ <;> intro h)
  | refine cpG (f2q hc) ?_
  | refine cpG (c8d hc) ?_
  | refine cpG tOrd ?_
  | refine cpG (d4m _) ?_
  | (refine yg ?_; clear hK K)
  | (refine yh ?_; clear hT hE T E)
  | simp [*, -List.all_flatten, -List.all_eq_true, yl, asR, a0q, Ins.row, a7j, a3n, b6b, bRow, a5i, g4d, wa, a1w, rmvs, rmv, a2r, FV.cellV, a0w, a0j, a1d, FnD.row, a7b, a7g, a4w]
theorem BsS.of (hl : hdN 7 (L.map Prod.fst) = true) (ho : ninL (inH (HP L noH noH)) L) : BsS (updL L noH) := by
 have hout : ∀ k r, k ≠ 7 -> updL L noH (k :: r) = none := fun k r hk => by
  rw [a3i fun p hp e => ?_]
  . rfl
  . obtain ⟨q, hq⟩ := a4z hl p.1 (A1t.2 ⟨p, hp, rfl⟩)
    rw [e] at hq
    simp only [A1q] at hq
    exact hk hq.1
 refine ⟨fun k r hk => hout k r ya, fun k r h1 h2 => hout k r ya, fun l o h => ?_⟩
 rcases a4k h with h | ⟨_, h⟩
 . exact a1t (fun q hq => hq) (a8e ho _ h)
 . cases h
theorem h0p {b : Bool} : HP (([88], .cells 4 1 [[.bool b]]) :: L) B (MN p y) = HP L B (MF p y b) := by
 rw [e2o (show MN p y [88] = none from rfl)]
 congr 1
 funext k
 unfold upd
 by_cases e : k = [88]
 . subst e; rfl
 . rw [if_neg e, b8r e]
   unfold MF
   split <;> first | rfl | exact absurd rfl e
structure PgB (p : Pg) : Prop where
 f : p.fu.length <= 2000000
 g : p.gl.length <= 2000000
 l : p.la.length <= 2000000
 ll : ∀ x ∈ p.la, x.length <= 2000000
 c : ∀ x ∈ p.fu, x.code.length <= 2000000
theorem _root_.Go.Gv.Ld.zero (hp : VOk p) (x : Pts) : Gv.Ld p x 0 0 0 (a2p p) := by
 refine ⟨(a4e hp).shp, fun t => ?_⟩
 have e : Gv.ldd 0 0 0 t = false := by cases t <;> simp [Gv.ldd]
 rw [e, if_neg yd]
 cases t with
 | r g a =>
   simp only [Gv.getS, Gv.rg, a2p, A5m, A1j, A5r]
   cases p.fu[g]? with
   | none => simp
   | some f => by_cases h : a < f.regs.toNat <;> simp [A2o, h]
 | c o =>
   simp only [Gv.getS, Gv.cl, a2p, A5m, A2o, A5r]
   split <;> rfl
theorem g5d (p : Pg) (y : Pts) : MN p y [88] = none := rfl
theorem f9v {r : Nat} (hf : f < Y.regs.length) (hr : r < Y.regs[f].length) : (SL.r f r).ok Y := ⟨hf, by rw [A5m, A5n hf]; exact hr⟩
section
variable {P : Program} {c : Cfg} {ops : Array Oper} {Φ : Fs -> Prop} {s : Fs}
end
theorem TR.skip {C C' : Pts -> Prop} (H : TR m C C Y g Z h) (hs : ∀ z, C' z -> C z) (hn : Z = Y -> C Y -> C' Y) : TR m C' C' Y g Z h :=
 ⟨H.pre, fun z hz hy => H.least z (hs z hz) hy, fun e => by obtain ⟨h1, h2, h3⟩ := H.good e; exact ⟨h1, h2, hn h2 h3⟩, fun e => ⟨(H.snd e).1, fun hg hc => (H.snd e).2 hg (hs _ hc)⟩, H.prog⟩
theorem g8c (t : SL) (ss : List Int) (z : Pts) : inS t (ss.take 0) z := fun o ho => by simp at ho
theorem f5p (h : i < ss.length) (z : Pts) : inS t (ss.take (i + 1)) z ↔ inS t (ss.take i) z /\ inS t [ss[i]] z := by
 rw [A0y, A5n h]
 constructor
 . intro H; exact ⟨fun o ho => H o (A1o _ ho), fun o ho => H o (A2f _ (by simpa using ho))⟩
 . rintro ⟨h1, h2⟩ o ho
   rcases A0o.1 ho with e | e
   . exact h1 o e
   . exact h2 o z1p
theorem g8b {ks : List Int} (hp : ss.Perm ks) (z : Pts) : inS t ks z ↔ inS t (ss.take ss.length) z := by
 rw [A0c]
 exact ⟨fun h o ho => h o (hp.mem_iff.1 ho), fun h o ho => h o (hp.mem_iff.2 ho)⟩
theorem g6e (hi : i < ss.length) (H : TR false (inS t (ss.take i)) (inS t (ss.take i)) Y g Z h) (hin : ss[i] ∈ getS Z t) : TR false (inS t (ss.take (i + 1))) (inS t (ss.take (i + 1))) Y g Z h :=
 TR.skip H (fun z hz => ((f5p hi z).1 hz).1) fun e hc => (f5p hi _).2 ⟨hc, fun o ho => by rw [A0d] at ho; subst ho; rw [<- e]; exact hin⟩
theorem f9f (hi : i < ss.length) (ht : t.ok Z) (H : TR false (inS t (ss.take i)) (inS t (ss.take i)) Y g Z h) : TR false (inS t (ss.take (i + 1))) (inS t (ss.take (i + 1))) Y g (setS Z t (getS Z t ++ [ss[i]])) true :=
 (H.comp (TR.lay (b := h) ht ss[i])).mono (fun hc => hc.2.elim) fun z _ hz => (f5p hi z).1 hz
theorem f4l {l ks : List Int} (hi : i < ss.length) (hp : ss.Perm ks) (hk : okA n ks) (hl : okA n l) (hn : ss[i] ∉ l) : okA n (l ++ [ss[i]]) := by
 refine ⟨List.nodup_append.2 ⟨hl.1, by simp, fun a ha b hb e => ?_⟩, fun x hx => ?_⟩
 . rw [A0d] at hb; subst hb; subst e; exact hn ha
 . rcases A0o.1 hx with h | h
   . exact hl.2 x h
   . rw [A0d] at h; subst h; exact hk.2 _ (hp.mem_iff.1 (A5p hi))
theorem f5q {b : Bool} (h : B [88] = none) : HSub (HP [] B (MN p y)) (HP [] B (MF p y b)) := fun l o ho => by
 by_cases e : l = [88]
 . subst e
   have : HP [] B (MN p y) [88] = B [88] := rfl
   rw [this, h] at ho; cases ho
 . have e1 : MN p y l = MF p y b l := by
    rw [b8r e]
    unfold MF
    split <;> first | rfl | exact absurd rfl e
   unfold HP at ho ⊢
   rw [a1m] at ho ⊢
   rw [<- e1]; exact ho
def OutA (p : Pg) (B : Heap) (Y : Pts) (r : FV) (H' : Heap) : Prop := ∃ Y' b, r = .bool b /\ H' = HP [] B (MN p Y') /\ Shp p Y' /\ TR false (a4i p) (a4i p) Y false Y' b
def OutU (p : Pg) (B : Heap) (r : FV) (H' : Heap) : Prop := r = .tup [] /\ ∃ Y', H' = HP [] B (MN p Y') /\ Shp p Y' /\ Least p (a6q Y')
section
variable {P : Program} {c : Cfg} {ops : Array Oper} {o o2 o3 : Oper} {post : List Oper} {Φ : Fs -> Prop} {s : Fs}
theorem f8t (h : MG P c ops o (o2 :: o3 :: post) Φ s (a0x ops o s)) : WL P c ops (o :: o2 :: o3 :: post) Φ s := a4r h
end
theorem d4y {H : Heap} {nm : FM.Loc} (h0 : H nm = none) : FC Tp Gl 108 [.mp l] H (.clo 151 [] [.ptr nm 1 0 0]) (upd H nm (.cells 141 1 [[.mp l]])) := by
 have e0 : (fun d ix => if d = 1 then nm else 0 :: d :: ix : Nat -> List Nat -> FM.Loc) 1 [] = nm := rfl
 refine d1v (res := [.tmp 2]) 3 4 [] (fun d ix => if d = 1 then nm else 0 :: d :: ix) (fn := Tryz.f108) yc yn yn yn yd yb ?_
 repeat' first
  | refine z1k ?_
  | (refine stpK ?_; intro K hK)
  | (refine stpC ?_; intro T E hT hE)
  | (refine stp2 ?_ ?_ <;> intro h)
  | (refine yg ?_; clear hK K)
  | (refine yh ?_; clear hT hE T E)
  | simp [*, -List.all_flatten, -List.all_eq_true, DEFB, KFin]
 all_goals (funext k; simp only [upd]; split <;> rfl)
noncomputable def famA (p : Pg) (k : Nat) : Heap := fun l => match l with
 | [95, f] => if f < k then (match p.fu[f]? with
   | some y => some (.cells 72 11 [[.list 4 (fns p.fu), .list 2 (gbs p.gl), .list 1 (lays p.la), .int .i64 p.main, .int .i64 f, .str y.name, .int .i64 y.params, .int .i64 y.regs, .list 5 (inss y.code), .sl [96, f] 1 0 y.code.length, .sl [97, f] 1 0 y.code.length]])
   | none => none) else none
 | [96, f] => if f < k then (match p.fu[f]? with
   | some y => some (.cells 3 1 (ints (usL y.code)))
   | none => none) else none
 | [97, f] => if f < k then (match p.fu[f]? with
   | some y => some (.cells 68 1 (u64s (hdG 64 y.code)))
   | none => none) else none
 | _ => none
def thr (p : Pg) (f : Nat) (nm : ByteArray) (pa rg : Int) (c : List Ins) (g : List (BitVec 64)) : LF := [([95, f], .cells 72 11 [[.list 4 (fns p.fu), .list 2 (gbs p.gl), .list 1 (lays p.la), .int .i64 p.main, .int .i64 f, .str nm, .int .i64 pa, .int .i64 rg, .list 5 (inss c), .sl [96, f] 1 0 c.length, .sl [97, f] 1 0 c.length]]), ([96, f], .cells 3 1 (ints (usL c))), ([97, f], .cells 68 1 (u64s g))]
theorem g3g (p : Pg) : famA p 0 = noH := by
 funext l
 unfold famA
 split <;> simp [noH]
theorem a8l (p : Pg) (k : Nat) {q : Nat} {r : List Nat} (h : q < 95) : famA p k (q :: r) = none := by
 unfold famA
 split
 . rename_i e; simp only [A1q] at e; omega
 . rename_i e; simp only [A1q] at e; omega
 . rename_i e; simp only [A1q] at e; omega
 . rfl
theorem c6k (hk : f < k) (hf : f < p.fu.length) (e : p.fu[f] = ⟨nm, pa, rg, c⟩) : famA p k [95, f] = some (.cells 72 11 [[.list 4 (fns p.fu), .list 2 (gbs p.gl), .list 1 (lays p.la), .int .i64 p.main, .int .i64 f, .str nm, .int .i64 pa, .int .i64 rg, .list 5 (inss c), .sl [96, f] 1 0 c.length, .sl [97, f] 1 0 c.length]]) /\ famA p k [96, f] = some (.cells 3 1 (ints (usL c))) /\ famA p k [97, f] = some (.cells 68 1 (u64s (hdG 64 c))) := by
 have e2 : p.fu[f]? = some ⟨nm, pa, rg, c⟩ := by rw [A5n hf, e]
 refine ⟨?_, ?_, ?_⟩ <;> simp [famA, hk, e2]
theorem g3f (hf : k < p.fu.length) (e : p.fu[k] = ⟨nm, pa, rg, c⟩) : famA p (k + 1) = updL (thr p k nm pa rg c (hdG 64 c)) (famA p k) := by
 have e2 : p.fu[k]? = some ⟨nm, pa, rg, c⟩ := by rw [A5n hf, e]
 obtain ⟨h1, h2, h3⟩ := c6k (k := k + 1) ya hf e
 funext l
 unfold thr
 simp only [yw]
 split
 . rename_i el; rw [el]; exact h1
 split
 . rename_i el; rw [el]; exact h2
 split
 . rename_i el; rw [el]; exact h3
 rename_i n1 n2 n3
 have key : ∀ f, f ≠ k -> (f < k + 1 ↔ f < k) := fun f hf => by omega
 unfold famA
 split
 . rename_i f
   have : f ≠ k := fun h => n1 z1b
   simp only [key f this]
 . rename_i f
   have : f ≠ k := fun h => n2 z1b
   simp only [key f this]
 . rename_i f
   have : f ≠ k := fun h => n3 z1b
   simp only [key f this]
 . rfl
theorem e6z : famA p k [95, k] = none /\ famA p k [96, k] = none /\ famA p k [97, k] = none := by
 refine ⟨?_, ?_, ?_⟩ <;> simp [famA]
theorem e7a (h : famA p k [95, f] ≠ none) : famA p k [96, f] ≠ none /\ famA p k [97, f] ≠ none := by
 unfold famA at h ⊢
 simp only at h ⊢
 split at h
 . rename_i hk
   simp only [if_pos hk]
   cases e : p.fu[f]? with
   | none => rw [e] at h; simp at h
   | some y => simp
 . simp at h
theorem d0r (p : Pg) (k : Nat) : Clo (famA p k) := fun l o h => by
 by_cases h5 : ∃ f, l = [95, f]
 . obtain ⟨f, rfl⟩ := h5
   obtain ⟨d6, d7⟩ := e7a (p := p) (k := k) (f := f) (by rw [h]; simp)
   unfold famA at h
   simp only at h
   split at h
   . split at h
     . obtain rfl := A5o h
       exact ⟨⟨a3k _, a3j _, a1a _, trivial, trivial, trivial, trivial, trivial, a1p _, d6, d7, trivial⟩, trivial⟩
     . cases h
   . cases h
 . unfold famA at h
   split at h
   . exact absurd ⟨_, rfl⟩ h5
   . split at h
     . split at h
       . obtain rfl := A5o h
         exact a6c _ _
       . cases h
     . cases h
   . split at h
     . split at h
       . obtain rfl := A5o h
         exact a5t _ _
       . cases h
     . cases h
   . cases h
theorem bsF (p : Pg) (k : Nat) : Bs (fun _ => False) 6 noH (famA p k) := ⟨fun _ _ _ => rfl, fun q r hq => a8l p k ya, fun l o h => by
 have e : ext noH (famA p k) = famA p k := by
  funext l
  unfold ext
  cases famA p k l <;> rfl
 rw [e] at h ⊢
 exact d0r p k l o h, fun _ h => h.elim⟩
theorem e7x {P : Program} {c : Cfg} {ops : Array Oper} {o : Oper} {rest : List Oper} {K : Fs -> Prop} {s : Fs} {fn : Nat} {Ar : List FV} {r : FV} {cd : List Ins} (hs : s.H = HP L noH (famA p k)) (hf : k < p.fu.length) (e : p.fu[k] = ⟨nm, pa, rg, cd⟩)
 (hfc : FC P c.G fn Ar (HP [] (ext (updL L noH) (famA p k)) noH) r (HP (thr p k nm pa rg cd (hdG 64 cd)) (ext (updL L noH) (famA p k)) noH)) (h : StK P c ops rest K (putD c o r { s with H := HP L noH (famA p (k + 1)) })) : a9b P c ops o rest K s fn true Ar := by
 have e2 : HP (thr p k nm pa rg cd (hdG 64 cd)) (ext (updL L noH) (famA p k)) noH = HP L noH (famA p (k + 1)) := by
  rw [g3f hf e]
  funext l
  show updL (thr p k nm pa rg cd (hdG 64 cd)) (ext (updL L noH) (famA p k)) l = ext (updL L noH) (updL (thr p k nm pa rg cd (hdG 64 cd)) (famA p k)) l
  unfold thr
  simp only [yw, ext]
  split
  . rfl
  split
  . rfl
  split
  . rfl
  rfl
 rw [e2] at hfc
 exact ⟨rfl, r, _, by rw [hs]; exact hfc, h⟩
end Go.Je
