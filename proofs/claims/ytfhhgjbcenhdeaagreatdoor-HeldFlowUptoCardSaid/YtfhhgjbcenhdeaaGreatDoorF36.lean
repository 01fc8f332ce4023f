/- Parts of the proof. -/
import Derived.Test.YtfhhgjbcenhdeaaGreatDoorF29
import Derived.Test.YtfhhgjbcenhdeaaGreatDoorF31
import Derived.Test.YtfhhgjbcenhdeaaGreatDoorF33
import Derived.Test.YtfhhgjbcenhdeaaGreatDoorF32
import Derived.Test.YtfhhgjbcenhdeaaGreatDoorF27
import Derived.Test.YtfhhgjbcenhdeaaGreatDoorF30
import Derived.Test.YtfhhgjbcenhdeaaGreatDoorF22
import Derived.Test.YtfhhgjbcenhdeaaGreatDoorF21
import Derived.Test.YtfhhgjbcenhdeaaGreatDoorF24
import Derived.Test.YtfhhgjbcenhdeaaGreatDoorF35
set_option linter.unusedSimpArgs false
set_option linter.unusedVariables false
namespace Go.Je
open Go Go.FM Go.Gv Go.Proofs
set_option maxRecDepth 100000
set_option maxHeartbeats 40000000
def nxV (l : List Int) : FV := match l with
 | [] => .nils
 | _ :: _ => .list 1 (ints l)
def ouW (k : Nat) (l : List Int) : FV := match k with
 | 0 => .nils
 | _ + 1 => .list 1 (ints l)
theorem c1z (l : List Int) : ouW 0 l = .nils := rfl
theorem d9s (k : Nat) (l : List Int) : ouW (k + 1) l = .list 1 (ints l) := rfl
theorem d3r (l : List Int) : nl (nxV l) = true := by cases l <;> simp [nxV, nl, a0a]
theorem b8h (k : Nat) (l : List Int) : nl (ouW k l) = true := by cases k <;> simp [ouW, nl, a0a]
theorem b2y (β : FM.Loc -> Option FM.Loc) (k : Nat) (l : List Int) : ren β (ouW k l) = ouW k l := by cases k <;> rfl
theorem b3c (β : FM.Loc -> Option FM.Loc) (U : FM.Loc -> Prop) (k : Nat) (l : List Int) : inn β U (ouW k l) := by cases k <;> simp [ouW, inn, a0a]
def bxW (c : List Ins) (B : List (Nat × Nat)) : List (List FV) := B.map fun b => bRow b (nxV (nxB c b))
theorem a4u (c : List Ins) (B : List (Nat × Nat)) : (bxW c B).length = B.length := by simp [bxW]
theorem a4p (c : List Ins) : ∀ B : List (Nat × Nat), nlss (bxW c B) = true
 | [] => rfl
 | b :: B => by simpa [bxW, nlss, nls, nl, bRow, d3r] using a4p c B
def bwx (c : List Ins) (j : Nat) : List (List FV) := bxW c ((blks c).take j) ++ brs ((blks c).drop j)
def bwj (c : List Ins) (j : Nat) (b : Nat × Nat) (v : FV) : List (List FV) := bxW c ((blks c).take j) ++ bRow b v :: brs ((blks c).drop (j + 1))
theorem c5a {c : List Ins} {j : Nat} : (bwx c j).length = (blks c).length := by simp [bwx, a2y, a4u]; omega
theorem c5b {c : List Ins} {j : Nat} (h : j < (blks c).length) (b : Nat × Nat) (v : FV) : (bwj c j b v).length = (blks c).length := by simp [bwj, a2y, a4u]; omega
theorem b9w (c : List Ins) (j : Nat) : nlss (bwx c j) = true := by rw [bwx, a4q, a4p, a2m]; rfl
theorem f9j (c : List Ins) : bwx c 0 = brs (blks c) := by simp [bwx, bxW]
theorem e8z (c : List Ins) : bwx c (blks c).length = bxW c (blks c) := by simp [bwx, brs]
theorem f9i {c : List Ins} {j : Nat} (h : j < (blks c).length) : bwx c j = bwj c j (blks c)[j] .nils := by
 unfold bwx bwj
 rw [List.drop_eq_getElem_cons h]; rfl
theorem f9k {c : List Ins} {j : Nat} (h : j < (blks c).length) : bwj c j (blks c)[j] (nxV (nxB c (blks c)[j])) = bwx c (j + 1) := by
 unfold bwx bwj
 rw [List.take_succ_eq_append_getElem h]
 unfold bxW
 rw [List.map_append, List.append_assoc]; rfl
theorem d7d {c : List Ins} {j : Nat} (h : j < (blks c).length) (b : Nat × Nat) (v : FV) : (bwj c j b v)[j]? = some (bRow b v) := by
 unfold bwj
 have e : (bxW c ((blks c).take j)).length = j := by rw [a4u, List.length_take]; omega
 rw [List.getElem?_append_right (by omega), e, Nat.sub_self]; rfl
theorem e9b {c : List Ins} {j : Nat} (h : j < (blks c).length) (b : Nat × Nat) (v : FV) (h' : j < (bwj c j b v).length) : (bwj c j b v)[j] = bRow b v := by
 have := d7d h b v
 rw [gE_ h'] at this
 exact sI_ this
theorem e9a {c : List Ins} {j : Nat} (h : j < (blks c).length) (b : Nat × Nat) (v u : FV) (g : List FV -> List FV) (hg : g (bRow b v) = bRow b u) : (bwj c j b v).modify j g = bwj c j b u := by
 unfold bwj
 have e : (bxW c ((blks c).take j)).length = j := by rw [a4u, List.length_take]; omega
 refine List.ext_getElem? fun i => ?_
 rw [List.getElem?_modify]
 by_cases h1 : i < j
 . rw [List.getElem?_append_left (by omega), List.getElem?_append_left (by omega)]
   have : ¬ j = i := by omega
   simp [this]
 . rw [List.getElem?_append_right (by omega), List.getElem?_append_right (by omega), e]
   by_cases h2 : i = j
   . subst h2
     simp [hg]
   . obtain ⟨q, hq⟩ : ∃ q, i - j = q + 1 := ⟨i - j - 1, by omega⟩
     have : ¬ j = i := by omega
     rw [hq]
     simp [this]
theorem d2v (β : FM.Loc -> Option FM.Loc) (c : List Ins) (j : Nat) (b : Nat × Nat) (v : FV) : renss β (bwj c j b v) = bwj c j b (ren β v) := by
 unfold bwj
 rw [a8c, b0h (a4p c _)]
 show _ ++ (rens β (bRow b v) :: renss β _) = _
 rw [b0h (a2m _)]
 rfl
theorem d4s (β : FM.Loc -> Option FM.Loc) (U : FM.Loc -> Prop) (c : List Ins) (j : Nat) (b : Nat × Nat) (v : FV) : a6v β U (bwj c j b v) ↔ inn β U v := by
 unfold bwj
 rw [a8i]
 constructor
 . intro h; exact h.2.1.2.2.1
 . intro h; exact ⟨b0o (a4p c _), ⟨trivial, trivial, h, trivial⟩, b0o (a2m _)⟩
theorem f4q {c : List Ins} {j : Nat} (h : j < (blks c).length) (b : Nat × Nat) (v u : FV) : (bwj c j b v).modify j (fun r => List.take 2 r ++ u :: List.drop 3 r) = bwj c j b u := e9a h b v u _ rfl
theorem f9q (c : List Ins) : bkR c 0 = [] := rfl
theorem c6z (B : List (List FV)) (r u : List FV) (f : List FV -> List FV) (h : f r = u) : (B ++ [r]).modify B.length f = B ++ [u] := by
 refine List.ext_getElem? fun i => ?_
 rw [List.getElem?_modify]
 rcases Nat.lt_trichotomy i B.length with h1 | h1 | h1
 . have : ¬ B.length = i := by omega
   rw [List.getElem?_append_left h1, List.getElem?_append_left h1]
   simp [this]
 . subst h1
   simp [h]
 . rw [gn_ (by simp; omega), gn_ (by simp; omega)]; rfl
theorem e9h {c : List Ins} {k : Nat} (h : ¬ (a3e c)[k]? = some true) (hk : 0 < k) : ∃ m, (bkR c k).length = m + 1 /\ (bkR c (k + 1)).length = m + 1 /\ m = nmF c k /\ (∃ x, (brs (bkR c k))[m]? = some [.int .i64 x, .int .i64 (k : Int), .nils]) /\ (brs (bkR c k)).modify m (fun r => List.take 1 r ++ .int .i64 ((k : Int) + 1) :: List.drop 2 r) = brs (bkR c (k + 1)) := by
 obtain ⟨B, x, h1, h2⟩ := f9p h hk
 have hl : (bkR c (k + 1)).length = nmF c k + 1 := c5e
 have hB : B.length = nmF c k := by rw [h2] at hl; simpa using hl
 refine ⟨B.length, by rw [h1]; simp, by rw [h2]; simp, hB, ⟨x, ?_⟩, ?_⟩
 . rw [h1, b7d, b7c, List.getElem?_append_right (by rw [a2y]; omega), a2y, Nat.sub_self]; rfl
 . rw [h1, h2, b7d, b7d, b7c, b7c]
   have := c6z (brs B) [.int .i64 (x : Int), .int .i64 (k : Int), .nils] [.int .i64 (x : Int), .int .i64 ((k + 1 : Nat) : Int), .nils] (fun r => List.take 1 r ++ .int .i64 ((k : Int) + 1) :: List.drop 2 r) (by simp)
   rw [a2y] at this
   exact this
theorem e9j {c : List Ins} {k : Nat} (h : (a3e c)[k]? = some true) : ∃ m, (bkR c k).length = m /\ (bkR c (k + 1)).length = m + 1 /\ m = nmF c k /\ (brs (bkR c k) ++ [[FV.int .i64 (k : Int), FV.int .i64 0, FV.nils]])[m]? = some [.int .i64 (k : Int), .int .i64 0, .nils] /\ (brs (bkR c k) ++ [[FV.int .i64 (k : Int), FV.int .i64 0, FV.nils]]).modify m (fun r => List.take 1 r ++ .int .i64 ((k : Int) + 1) :: List.drop 2 r) = brs (bkR c (k + 1)) := by
 have e : bkR c (k + 1) = bkR c k ++ [(k, k + 1)] := by
  rcases Nat.eq_zero_or_pos k with rfl | hk
  . rfl
  . exact f9o h hk
 have hl : (bkR c (k + 1)).length = nmF c k + 1 := c5e
 have hB : (bkR c k).length = nmF c k := by rw [e] at hl; simpa using hl
 refine ⟨(bkR c k).length, rfl, by rw [e]; simp, hB, ?_, ?_⟩
 . rw [List.getElem?_append_right (by rw [a2y]; omega), a2y, Nat.sub_self]; rfl
 . rw [e, b7d, b7c]
   have := c6z (brs (bkR c k)) [.int .i64 (k : Int), .int .i64 0, .nils] [.int .i64 (k : Int), .int .i64 ((k + 1 : Nat) : Int), .nils] (fun r => List.take 1 r ++ .int .i64 ((k : Int) + 1) :: List.drop 2 r) (by simp)
   rw [a2y] at this
   exact this
theorem f4t {B : List (Nat × Nat)} {i : Nat} (h : i < (brs B).length) : ((brs B)[i]).length = 3 := by simp [brs, bRow]
theorem e1a {l : List Int} (h : l.foldl a1x [] = []) : l = [] := by
 cases l with
 | nil => rfl
 | cons a l =>
   have : a ∈ (a :: l).foldl a1x [] := (b2i (a :: l) []).2 (.inr (by simp))
   rw [h] at this; cases this
theorem e6q {c : List Ins} (b : Nat × Nat) : ouW (nx c (hd c (b.2 - 1))).length ((rawN c (hd c (b.2 - 1)) (nx c (hd c (b.2 - 1))).length).foldl a1x []) = nxV (nxB c b) := by
 rw [c6p]
 cases e : nx c (hd c (b.2 - 1)) with
 | nil =>
   have : nxB c b = [] := by unfold nxB; rw [e]; rfl
   rw [this]; rfl
 | cons a r =>
   cases e2 : nxB c b with
   | nil =>
     have := e1a e2
     rw [e] at this; cases this
   | cons x y => rfl
theorem b1h {k : Nat} {l : List Int} (n : Int) (h0 : k = 0 -> l = []) (hl : l.length <= 999999990) : PC Tryz.prog Gl 49 [ouW k l, .int .i64 n] (.list 1 (ints (a1x l n))) := by
 cases k with
 | zero => obtain rfl := h0 rfl; exact c3m n
 | succ k => exact c5y l n hl
theorem e0f (l : List Int) : (l.foldl a1x []).length <= l.length := by
 have key : ∀ (s a : List Int), (s.foldl a1x a).length <= a.length + s.length := by
  intro s
  induction s with
  | nil => simp
  | cons x s ih =>
    intro a
    have := ih (a1x a x)
    have h2 : (a1x a x).length <= a.length + 1 := b4i a x
    simp only [List.foldl_cons, List.length_cons]
    omega
 simpa using key l []
def rrl (op : Int) (k : Nat) : Int := if k = 0 then (rR op).1 else if k = 1 then (rR op).2.1 else (rR op).2.2
def dfR (x : Ins) : Nat -> List Int
 | 0 => []
 | k + 1 => dfR x k ++ rW (rrl x.op k) (vl x k)
theorem c7a (k : Nat) (l : List Int) (v : FV) : mV (ouW k l) v = [] := by cases k <;> rfl
theorem c4t (x : Ins) : dfR x 0 = [] := rfl
theorem f8u (x : Ins) : dfR x 3 = dfI x := by simp [dfR, dfI, rrl, vl]
theorem d6o (x : Ins) : ∀ k, (dfR x k).length <= k
 | 0 => nr_ _
 | k + 1 => by
   have := d6o x k
   have := c1w (rrl x.op k) (vl x k)
   simp only [dfR, List.length_append]; omega
theorem b3k (x : Ins) {k : Nat} (hk : k <= 3) : ((dfR x k).foldl a1x []).length <= 999999990 := by
 have h1 := b6n (dfR x k) []
 have h2 := d6o x k
 simp only [List.length_nil] at h1
 omega
theorem d0l {x : Ins} {k : Nat} (h : rrl x.op k = 100 \/ (rrl x.op k = 68 /\ 0 <= vl x k)) : (dfR x (k + 1)).length = (dfR x k).length + 1 /\ (dfR x (k + 1)).foldl a1x [] = a1x ((dfR x k).foldl a1x []) (vl x k) := by
 simp only [dfR, rW, if_pos h]
 exact ⟨by simp, by rw [List.foldl_append]; rfl⟩
theorem d0m {x : Ins} {k : Nat} (h : ¬ (rrl x.op k = 100 \/ (rrl x.op k = 68 /\ 0 <= vl x k))) : dfR x (k + 1) = dfR x k := by
 simp only [dfR, rW, if_neg h, List.append_nil]
theorem d9q {H : Heap} {m k : Nat} {l : List Int} (h0 : k = 0 -> l = []) : PFin (frz H (m + 1) (ouW k l)) (.list 1 (ints l)) := by
 cases k with
 | zero => rw [h0 rfl]; exact .inr ⟨1, rfl⟩
 | succ k => simp [ouW, frz, PFin, asR, nl, a0a]
structure InsD (x : Ins) : Prop where
 op : 1 <= x.op /\ x.op <= 52
 v0 : (rR x.op).1 = 100 -> 0 <= x.a
 v1 : (rR x.op).2.1 = 100 -> 0 <= x.b
 v2 : (rR x.op).2.2 = 100 -> 0 <= x.c
theorem e5o {p : Pg} {f i : Nat} (hf : f < p.funcs.length) (hi : i < p.funcs[f].code.length) (h1 : p.funcs.length <= 2000000) (h2 : p.funcs[f].code.length <= 2000000) {x : Ins} (hx : p.funcs[f].code[i] = x) (hD : InsD x) : PC Tryz.prog Gl 51 [.agg [.list 4 (fns p.funcs), .list 2 (gbs p.globals), .list 1 (lays p.layouts), .int .i64 p.main], .int .i64 f, .int .i64 i] (.list 1 (ints (dfL x))) := by
 obtain ⟨-, ⟨i0, i1, i2⟩, hne⟩ := c5t hD.op
 have hv0 := hD.v0
 have hv1 := hD.v1
 have hv2 := hD.v2
 have tR := c113 x.op
 have l1 : (f : Int) < (p.funcs.length : Int) := by omega
 have l2 : (i : Int) < (p.funcs[f].code.length : Int) := by omega
 have l3 : ¬ (p.funcs.length : Int) <= (f : Int) := by omega
 have l4 : ¬ (p.funcs[f].code.length : Int) <= (i : Int) := by omega
 have w1 : IntKind.wrap .i64 1 = 1 := by decide
 have w2 : IntKind.wrap .i64 2 = 2 := by decide
 have w3 : IntKind.wrap .i64 3 = 3 := by decide
 by_cases h51 : x.op = 51
 all_goals first | (rw [h51] at tR hne i0 i1 i2) | skip
 all_goals
  refine a3s (res := [.tmp 6]) 12 88 [] (fun d ix => 0 :: d :: ix) (fn := Tryz.f51) (by kernel_rfl) (by rfl) (by rfl) (by rfl) (by simp) (by decide) ?_
  repeat' first
   | ((with_reducible refine a1a ?_); refine a1q (σ := {k : Nat // k <= 3}) (fun y => [(7, ouW (dfR x y.1).length ((dfR x y.1).foldl a1x [])), (11, .int .i64 (y.1 : Int))]) [] (fun y => []) [] (fun y => []) (fun y => noH) (fun y => 3 - y.1) ⟨0, by simp⟩ (gk3 (j := 0) [] (Bs.pc _) ?_ ?_ ?_ ?_ ?_ ?_ ?_) ?_; (iterate 7 (focus (first | rfl | (simp [LPXB, *, SIMB, hdN, injB, c4t, c1z, List.length_nil, List.foldl_nil, ↓c7a, b2y, b3c]; done)))); rintro ⟨k, hk⟩; simp only [lpS, LPXB]; (try dsimp only at hk); have h4 : k = 0 \/ k = 1 \/ k = 2 \/ k = 3 := (by omega); rcases h4 with rfl | rfl | rfl | rfl; rotate_right; have h30 := f8u x; have hp3 : (dfI x).length = 0 -> dfL x = [] := (fun e => by unfold dfL; rw [eN_ e]; rfl); have hdL : (dfI x).foldl a1x [] = dfL x := rfl; rotate_left; obtain ⟨r, hr⟩ : ∃ r, (rR x.op).1 = r := ⟨_, rfl⟩; rw [hr] at i0 hv0; have hrl : rrl x.op 0 = r := hr; obtain ⟨v, hvv⟩ : ∃ v, vl x 0 = v := ⟨_, rfl⟩; have hvx : x.a = v := hvv; by_cases ha : r = 100; subst ha; have hg := hv0 rfl; rw [hvx] at hg; obtain ⟨hl2, hf2⟩ : (dfR x 1).length = (dfR x 0).length + 1 /\ (dfR x 1).foldl a1x [] = a1x ((dfR x 0).foldl a1x []) (vl x 0) := d0l (x := x) (k := 0) (.inl hrl); have hq0 : (dfR x 0).length = 0 -> (dfR x 0).foldl a1x [] = [] := (fun e => by rw [eN_ e]; rfl); have tW := b1h (k := (dfR x 0).length) (l := (dfR x 0).foldl a1x []) v hq0 (b3k x (by omega : 0 <= 3)); rw [hvv] at hf2; rw [<- hf2] at tW; clear hf2 hq0; simp only [c4t, List.length_nil, List.foldl_nil, c1z] at tW; rotate_left; by_cases hb : r = 68; subst hb; by_cases hg : 0 <= v; obtain ⟨hl2, hf2⟩ : (dfR x 1).length = (dfR x 0).length + 1 /\ (dfR x 1).foldl a1x [] = a1x ((dfR x 0).foldl a1x []) (vl x 0) := d0l (x := x) (k := 0) (.inr ⟨hrl, by rw [hvv]; exact hg⟩); have hq0 : (dfR x 0).length = 0 -> (dfR x 0).foldl a1x [] = [] := (fun e => by rw [eN_ e]; rfl); have tW := b1h (k := (dfR x 0).length) (l := (dfR x 0).foldl a1x []) v hq0 (b3k x (by omega : 0 <= 3)); rw [hvv] at hf2; rw [<- hf2] at tW; clear hf2 hq0; simp only [c4t, List.length_nil, List.foldl_nil, c1z] at tW; rotate_left; have hdk : dfR x 1 = dfR x 0 := d0m (x := x) (k := 0) (by rw [hrl, hvv]; rintro (h | h); exact absurd h (by decide); exact hg h.2); rotate_left; have hdk : dfR x 1 = dfR x 0 := d0m (x := x) (k := 0) (by rw [hrl]; rintro (h | h); exact ha h; exact hb h.1); rotate_left; obtain ⟨r, hr⟩ : ∃ r, (rR x.op).2.1 = r := ⟨_, rfl⟩; rw [hr] at i1 hv1; have hrl : rrl x.op 1 = r := hr; obtain ⟨v, hvv⟩ : ∃ v, vl x 1 = v := ⟨_, rfl⟩; have hvx : x.b = v := hvv; by_cases ha : r = 100; subst ha; have hg := hv1 rfl; rw [hvx] at hg; obtain ⟨hl2, hf2⟩ : (dfR x 2).length = (dfR x 1).length + 1 /\ (dfR x 2).foldl a1x [] = a1x ((dfR x 1).foldl a1x []) (vl x 1) := d0l (x := x) (k := 1) (.inl hrl); have hq0 : (dfR x 1).length = 0 -> (dfR x 1).foldl a1x [] = [] := (fun e => by rw [eN_ e]; rfl); have tW := b1h (k := (dfR x 1).length) (l := (dfR x 1).foldl a1x []) v hq0 (b3k x (by omega : 1 <= 3)); rw [hvv] at hf2; rw [<- hf2] at tW; clear hf2 hq0; rotate_left; by_cases hb : r = 68; subst hb; by_cases hg : 0 <= v; obtain ⟨hl2, hf2⟩ : (dfR x 2).length = (dfR x 1).length + 1 /\ (dfR x 2).foldl a1x [] = a1x ((dfR x 1).foldl a1x []) (vl x 1) := d0l (x := x) (k := 1) (.inr ⟨hrl, by rw [hvv]; exact hg⟩); have hq0 : (dfR x 1).length = 0 -> (dfR x 1).foldl a1x [] = [] := (fun e => by rw [eN_ e]; rfl); have tW := b1h (k := (dfR x 1).length) (l := (dfR x 1).foldl a1x []) v hq0 (b3k x (by omega : 1 <= 3)); rw [hvv] at hf2; rw [<- hf2] at tW; clear hf2 hq0; rotate_left; have hdk : dfR x 2 = dfR x 1 := d0m (x := x) (k := 1) (by rw [hrl, hvv]; rintro (h | h); exact absurd h (by decide); exact hg h.2); rotate_left; have hdk : dfR x 2 = dfR x 1 := d0m (x := x) (k := 1) (by rw [hrl]; rintro (h | h); exact ha h; exact hb h.1); rotate_left; obtain ⟨r, hr⟩ : ∃ r, (rR x.op).2.2 = r := ⟨_, rfl⟩; rw [hr] at i2 hv2; have hrl : rrl x.op 2 = r := hr; obtain ⟨v, hvv⟩ : ∃ v, vl x 2 = v := ⟨_, rfl⟩; have hvx : x.c = v := hvv; by_cases ha : r = 100; subst ha; have hg := hv2 rfl; rw [hvx] at hg; obtain ⟨hl2, hf2⟩ : (dfR x 3).length = (dfR x 2).length + 1 /\ (dfR x 3).foldl a1x [] = a1x ((dfR x 2).foldl a1x []) (vl x 2) := d0l (x := x) (k := 2) (.inl hrl); have hq0 : (dfR x 2).length = 0 -> (dfR x 2).foldl a1x [] = [] := (fun e => by rw [eN_ e]; rfl); have tW := b1h (k := (dfR x 2).length) (l := (dfR x 2).foldl a1x []) v hq0 (b3k x (by omega : 2 <= 3)); rw [hvv] at hf2; rw [<- hf2] at tW; clear hf2 hq0; rotate_left; by_cases hb : r = 68; subst hb; by_cases hg : 0 <= v; obtain ⟨hl2, hf2⟩ : (dfR x 3).length = (dfR x 2).length + 1 /\ (dfR x 3).foldl a1x [] = a1x ((dfR x 2).foldl a1x []) (vl x 2) := d0l (x := x) (k := 2) (.inr ⟨hrl, by rw [hvv]; exact hg⟩); have hq0 : (dfR x 2).length = 0 -> (dfR x 2).foldl a1x [] = [] := (fun e => by rw [eN_ e]; rfl); have tW := b1h (k := (dfR x 2).length) (l := (dfR x 2).foldl a1x []) v hq0 (b3k x (by omega : 2 <= 3)); rw [hvv] at hf2; rw [<- hf2] at tW; clear hf2 hq0; rotate_left; have hdk : dfR x 3 = dfR x 2 := d0m (x := x) (k := 2) (by rw [hrl, hvv]; rintro (h | h); exact absurd h (by decide); exact hg h.2); rotate_left; have hdk : dfR x 3 = dfR x 2 := d0m (x := x) (k := 2) (by rw [hrl]; rintro (h | h); exact ha h; exact hb h.1); rotate_left)
   | ((with_reducible refine a0q ?_); refine a1b (⟨1, by omega⟩) (gk3 (j := 0) [] (Bs.pc _) ?_ ?_ ?_ ?_ ?_ ?_ ?_) ?_; (iterate 7 (focus (first | rfl | (simp [LPXB, *, SIMB, hdN, injB, ↓c7a, d9s, b2y, b3c, c4t, c1z, List.length_nil, List.foldl_nil]; done)))); (focus (dsimp only; omega)))
   | ((with_reducible refine a0q ?_); refine a1b (⟨2, by omega⟩) (gk3 (j := 0) [] (Bs.pc _) ?_ ?_ ?_ ?_ ?_ ?_ ?_) ?_; (iterate 7 (focus (first | rfl | (simp [LPXB, *, SIMB, hdN, injB, ↓c7a, d9s, b2y, b3c, c4t, c1z, List.length_nil, List.foldl_nil]; done)))); (focus (dsimp only; omega)))
   | ((with_reducible refine a0q ?_); refine a1b (⟨3, by omega⟩) (gk3 (j := 0) [] (Bs.pc _) ?_ ?_ ?_ ?_ ?_ ?_ ?_) ?_; (iterate 7 (focus (first | rfl | (simp [LPXB, *, SIMB, hdN, injB, ↓c7a, d9s, b2y, b3c, c4t, c1z, List.length_nil, List.foldl_nil]; done)))); (focus (dsimp only; omega)))
   | ((with_reducible refine a1e tW (by simp [nls, nl, b8h, a0a]) ?_))
   | ((with_reducible refine hpc tW (by simp [nls, nl, b8h, a0a]) ?_))
   | with_reducible first | refine stp ?_ | refine stpK ?_; intro K hK | refine stpC ?_; intro T E hT hE | refine stp2 ?_ ?_ <;> intro h | refine a0g rfl ?_ | refine a1e tR (by simp [nls, nl, *, NLXB]) ?_ | refine hpc tR (by simp [nls, nl, *, NLXB]) ?_ | refine a0j rfl (lbR rfl) a0i ?_ | refine a0j rfl (lbR rfl) (a0h (by simp [HPXB, ext, upd, *])) ?_ | refine a1g (by decide) (by kernel_rfl) ?_ | refine a0o (by decide) ?_ | refine Kont.go hK ?_; clear hK K | refine KT.go hT ?_; clear hT hE T E | refine KT.go hE ?_; clear hT hE T E
   | simp [*, -List.all_flatten, -List.all_eq_true, DEFB, LENB, asR, a1w, FV.cellV, a2f, a0a, c8k, a2r, Ins.row, b8h, c4t, c1z]
  all_goals first
   | (exfalso; omega)
   | exact d9q hp3
   | trace_state
theorem b1x {nm : ByteArray} {pa rg : Int} {c : List Ins} (hc : CodeOk c) : PC Tryz.prog Gl 50 [.agg [.str nm, .int .i64 pa, .int .i64 rg, .list 5 (inss c)]] (.list 3 (bxW c (blks c))) := by
 have h1000 := hc.n1000
 have hs1 : (c.length : Int) + 1 <= 4611686018427387904 := by omega
 have hs2 : (c.length : Int) + 1 <= 281474976710656 := by omega
 have hs0 : (0 : Int) <= (c.length : Int) + 1 := by omega
 have wl1 : IntKind.wrap .i64 ((c.length : Int) + 1) = (c.length : Int) + 1 := by rw [IntKind.wrap_i64]; omega
 have tl1 : ((c.length : Int) + 1).toNat = c.length + 1 := by omega
 have hp1 : (0 : Int) < (c.length : Int) + 1 := by omega
 have hs4 : 8 * ((c.length : Int) + 1) <= 281474976710656 := by omega
 have hbl0 := b3m c hc
 have hl0 : (a3e c)[0]? = some true := by
  have := ((a5e hc (v := 0)).2 (.inl rfl)).2
  exact this
 refine a3s (res := [.tmp 2]) 10 87 [] (fun d ix => 0 :: d :: ix) (fn := Tryz.f50) (by kernel_rfl) (by rfl) (by rfl) (by rfl) (by simp) (by decide) ?_
 repeat' first
  | ((with_reducible refine a1a ?_); refine a1q (σ := {k : Nat // k <= c.length}) (fun y => [(4, .sl [0, 191] 3 0 (bkR c y.1).length), (6, .int .i64 (y.1 : Int))]) [] (fun y => []) [] (fun y => [([0, 191], .cells 87 3 (brs (bkR c y.1))), ([0, 16], .cells 3 1 (ints (nmL c (c.length + 1) y.1)))]) (fun y => noH) (fun y => c.length - y.1) ⟨0, by simp⟩ (gk3 (j := 0) [([0, 191], none)] (Bs.pc _) ?_ ?_ ?_ ?_ ?_ ?_ ?_) ?_; (iterate 7 (focus (first | rfl | (simp [LPXB, *, SIMB, hdN, injB, a2m, a2y, a0n, a6t, a0f, f9q, d7e, e6u, c0g]; done)))); rintro ⟨k, hk⟩; simp only [lpS, LPXB]; (try dsimp only at hk); have hnl := a6t c (c.length + 1) k; have hbl := a2y (bkR c k); have htk : (brs (bkR c k)).take (bkR c k).length = brs (bkR c k) := tL_ (by omega); rcases a0z hk with hlt | ⟨hlt, e⟩; rotate_left; subst e; have hbe : bkR c c.length = blks c := e9i hc; rotate_left; have wk := wli hlt (by omega); have hll := a8f c; have hbk1 := c5e (c := c) (k := k); have hnk := c6w c k; have hms := f2b (c := c) (n := c.length + 1) (k := k) (by omega); have hmn := c2n (nmL c (c.length + 1) k) k (nmF c k : Int) (by omega); rw [hms] at hmn; have hgn : (ints (nmL c (c.length + 1) k))[k]? = some [.int .i64 ((nmL c (c.length + 1) k)[k]'(by omega))] := c2o (by omega); have k4 : (k : Int) < (c.length : Int) + 1 := (by omega); have hgl : (a2h (a3e c))[k]? = some [.bool ((a3e c)[k]'(by omega))] := a3z (by omega); by_cases hl : (a3e c)[k]? = some true; have hlb : (a3e c)[k]'(by omega) = true := (by rw [gE_ (by omega)] at hl; simpa using hl); rw [hlb] at hgl; obtain ⟨m, hm1, hm2, hm3, hm4, hm5⟩ := e9j hl; rw [<- hm3] at hmn hnk; clear hm3 hbk1 hms; have hml : (m : Int) < (m : Int) + 1 := (by omega); have htk2 : (brs (bkR c k)).take m = brs (bkR c k) := (by rw [<- hm1]; exact htk); have s1 : (m + 1 + (m + 1) / 4 + 192) * 40 <= 140737488355328 := (by omega); have s2 : m <= 4611686018427387903 := (by omega); have wm : IntKind.wrap .i64 (m : Int) = (m : Int) := (by rw [IntKind.wrap_i64]; omega); rotate_left; have hlb : (a3e c)[k]'(by omega) = false := (by rw [gE_ (by omega)] at hl; simpa using hl); rw [hlb] at hgl; have hk0 : 0 < k := (Nat.pos_of_ne_zero fun e => by subst e; exact hl hl0); obtain ⟨m, hm1, hm2, hm3, ⟨xm, hm4⟩, hm5⟩ := e9h hl hk0; rw [<- hm3] at hmn hnk; clear hm3 hbk1 hms; have hml : (m : Int) < (m : Int) + 1 := (by omega); have wm : IntKind.wrap .i64 (m : Int) = (m : Int) := (by rw [IntKind.wrap_i64]; omega); rotate_left)
  | ((with_reducible refine a0q ?_); refine a1b (⟨k + 1, by omega⟩) (gk3 (j := 0) [([0, 191], some [0, 32])] (Bs.pc _) ?_ ?_ ?_ ?_ ?_ ?_ ?_) ?_; (iterate 7 (focus (first | rfl | (simp [LPXB, *, SIMB, hdN, injB, a2m, a2y, a0n, a6t, a0f]; done)))); (focus (dsimp only; omega)))
  | ((with_reducible refine a0q ?_); refine a1b (⟨k + 1, by omega⟩) (gk3 (j := 0) [] (Bs.pc _) ?_ ?_ ?_ ?_ ?_ ?_ ?_) ?_; (iterate 7 (focus (first | rfl | (simp [LPXB, *, SIMB, hdN, injB, a2m, a2y, a0n, a6t, a0f]; done)))); (focus (dsimp only; omega)))
  | ((with_reducible refine a1a ?_); refine a1q (σ := {j : Nat // j <= (blks c).length}) (fun y => [(7, .int .i64 (y.1 : Int)), (8, .undef), (9, .undef)]) [] (fun y => []) [] (fun y => [([0, 191], .cells 87 3 (bwx c y.1))]) (fun y => noH) (fun y => (blks c).length - y.1) ⟨0, by simp⟩ (gk3 (j := 0) [] (Bs.pc _) ?_ ?_ ?_ ?_ ?_ ?_ ?_) ?_; (iterate 7 (focus (first | rfl | (simp [LPXB, *, SIMB, hdN, injB, a2m, a2y, a0n, a6t, a0f, b9w, f9j, c5a]; done)))); rintro ⟨j, hj⟩; simp only [lpS, LPXB]; (try dsimp only at hj); have hbm := c5a (c := c) (j := j); rcases a0z hj with hlt | ⟨hlt, e⟩; rotate_left; subst e; have hbe := e8z c; have hbl2 := a4u c (blks c); have htk : (bxW c (blks c)).take (blks c).length = bxW c (blks c) := tL_ (by rw [a4u]; exact nr_ _); have hnb := a4p c (blks c); rotate_left; have wj := wli hlt (by omega); obtain ⟨hB, hBl⟩ := a9c hlt; have hBlt := hB.lt; have hjj := f9i hlt; have hat := d7d hlt ((blks c)[j]'hlt) .nils; obtain ⟨e, he⟩ : ∃ e, ((blks c)[j]'hlt).2 = e + 1 := ⟨((blks c)[j]'hlt).2 - 1, by omega⟩; have hle1 : e < c.length := (by omega); have we : IntKind.wrap .i64 (e : Int) = (e : Int) := (by rw [IntKind.wrap_i64]; omega); have hdl := c0m c e; have hh : hd c e < c.length := (by omega); have hnx := b5w c (hd c e); have hend := e6q (c := c) ((blks c)[j]'hlt); rw [he, Nat.add_sub_cancel] at hend; have hsj := f9k hlt; rotate_left)
  | ((with_reducible refine a1a ?_); refine a1q (σ := {q : Nat // q <= (nx c (hd c e)).length}) (fun y => [(9, .int .i64 (y.1 : Int))]) [] (fun y => []) [] (fun y => [([0, 191], .cells 87 3 (bwj c j ((blks c)[j]'hlt) (ouW y.1 ((rawN c (hd c e) y.1).foldl a1x []))))]) (fun y => noH) (fun y => (nx c (hd c e)).length - y.1) ⟨0, by simp⟩ (gk3 (j := 0) [] (Bs.pc _) ?_ ?_ ?_ ?_ ?_ ?_ ?_) ?_; (iterate 7 (focus (first | rfl | (simp [LPXB, *, SIMB, hdN, injB, a2m, a2y, a0n, a6t, a0f, b9w, e3b, List.foldl_nil, c1z, c5b, d2v, d4s, b2y, b3c]; done)))); rintro ⟨q, hq⟩; simp only [lpS, LPXB]; (try dsimp only at hq); have hrl := c6o hq; have hat := d7d hlt ((blks c)[j]'hlt) (ouW q ((rawN c (hd c e) q).foldl a1x [])); rcases a0z hq with hlq | ⟨hlq, e⟩; rotate_left; subst e; rotate_left; have wq := wli hlq (by omega); obtain ⟨v0, v1, _⟩ := a7y hc (gm_ hlq); have v2 : ((nx c (hd c e))[q]'hlq) < (c.length : Int) + 1 := (by omega); have v3 : (((nx c (hd c e))[q]'hlq)).toNat < c.length + 1 := (by omega); have hnl2 := a6t c (c.length + 1) c.length; have hgm := e3e (c := c) (n := c.length + 1) (k := c.length) v3 v1; have hgv : (nmL c (c.length + 1) c.length)[(((nx c (hd c e))[q]'hlq)).toNat]'(by omega) = (nmF c (((nx c (hd c e))[q]'hlq)).toNat : Int) := (by rw [gE_ (by omega)] at hgm; exact sI_ hgm); have hrs := e3a hlq; have hfs : ((rawN c (hd c e) (q + 1)).foldl a1x []) = a1x ((rawN c (hd c e) q).foldl a1x []) (nmF c (((nx c (hd c e))[q]'hlq)).toNat : Int) := (by rw [hrs, List.foldl_append]; rfl); have tW := b1h (k := q) (l := ((rawN c (hd c e) q).foldl a1x [])) (nmF c (((nx c (hd c e))[q]'hlq)).toNat : Int) (by intro e; subst e; rfl) (Nat.le_trans (e0f _) (by omega)); rw [<- hfs] at tW; clear hrs; obtain ⟨fq, hfq⟩ : ∃ l, ((rawN c (hd c e) q).foldl a1x []) = l := ⟨_, rfl⟩; obtain ⟨fq1, hfq1⟩ : ∃ l, ((rawN c (hd c e) (q + 1)).foldl a1x []) = l := ⟨_, rfl⟩; rw [hfq1, hfq] at tW; clear hfs; rotate_left)
  | ((with_reducible refine a0q ?_); refine a1b (⟨q + 1, by omega⟩) (gk3 (j := 0) [] (Bs.pc _) ?_ ?_ ?_ ?_ ?_ ?_ ?_) ?_; (iterate 7 (focus (first | rfl | (simp [LPXB, *, SIMB, hdN, injB, a2m, a2y, a0n, a6t, a0f, d9s, c5b, d2v, d4s, b2y, b3c]; done)))); (focus (dsimp only; omega)))
  | ((with_reducible refine a0q ?_); refine a1b (⟨j + 1, by omega⟩) (gk3 (j := 0) [] (Bs.pc _) ?_ ?_ ?_ ?_ ?_ ?_ ?_) ?_; (iterate 7 (focus (first | rfl | (simp [LPXB, *, SIMB, hdN, injB, a2m, a2y, a0n, a6t, a0f, b9w]; done)))); (focus (dsimp only; omega)))
  | ((with_reducible refine a1e tW (by simp [nls, nl, b8h, a0a]) ?_))
  | ((with_reducible refine hpc tW (by simp [nls, nl, b8h, a0a]) ?_))
  | with_reducible first | refine a2j (id := 18) 17 a0y (by kernel_rfl) fun K hK => ?_ | refine a2j (id := 14) 10 a0y (by kernel_rfl) fun K hK => ?_ | refine stp ?_ | refine stpK ?_; intro K hK | refine stpC ?_; intro T E hT hE | refine stp2 ?_ ?_ <;> intro h | refine a0g rfl ?_ | refine a1e (c1m hc) (by simp [nls, nl, *, NLXB]) ?_ | refine hpc (c1m hc) (by simp [nls, nl, *, NLXB]) ?_ | refine a1e (b5k hc hh) (by simp [nls, nl, *, NLXB]) ?_ | refine hpc (b5k hc hh) (by simp [nls, nl, *, NLXB]) ?_ | refine a1e (c6a hc hle1) (by simp [nls, nl, *, NLXB]) ?_ | refine hpc (c6a hc hle1) (by simp [nls, nl, *, NLXB]) ?_ | refine a0j rfl (lbR rfl) a0i ?_ | refine a0j rfl (lbR rfl) (a0h (by simp [HPXB, a1w, ext, upd, *])) ?_ | refine a1g (by decide) (by kernel_rfl) ?_ | refine a0o (by decide) ?_ | refine Kont.go hK ?_; clear hK K | refine KT.go hT ?_; clear hT hE T E | refine KT.go hE ?_; clear hT hE T E
  | simp [*, -List.all_flatten, -List.all_eq_true, DEFB, LENB, asR, a1w, a0d, a4s, a3u, a0f, a1s, c0g, e6u, a4k, a6m, b6m, Ins.row, bRow, c5b, e9b, f4q, c5a, rmvs, rmv, a5p, FV.cellV, a2g, a0a, b8h, f4t]
 all_goals first
  | (exfalso; omega)
  | trace_state
theorem d9x {l : List Bool} {v : Int} (hm : l[v.toNat]? = some true) : mk1 l v = l := by
 unfold mk1
 obtain ⟨h1, h2⟩ := List.getElem?_eq_some_iff.1 hm
 rw [<- h2]
 exact List.set_getElem_self h1
theorem f2h (l : List Bool) {s : List Int} {i : Nat} (h : i < s.length) : mkL l (s.take (i + 1)) = mk1 (mkL l (s.take i)) s[i] := by
 rw [List.take_succ_eq_append_getElem h, b8k]
 rfl
theorem d9w {l : List Bool} {s : List Int} (hs : ∀ o ∈ s, 0 <= o /\ o < (l.length : Int)) {i : Nat} (h : l[i]? = some true) : (mkL l s)[i]? = some true := by
 have := (isM_mkL (v := (i : Int)) s l hs).2 (.inl ⟨by omega, by simpa using h⟩)
 simpa using this.2
theorem f6x {c : List Ins} {l : List Bool} {k : Nat} (h : (rdN c l k)[k]? = some true) : rdN c l (k + 1) = mkL (rdN c l k) (nx c k) := by rw [c9x, if_pos h]
theorem f6y {c : List Ins} {l : List Bool} {k : Nat} (h : ¬ (rdN c l k)[k]? = some true) : rdN c l (k + 1) = rdN c l k := by rw [c9x, if_neg h]
theorem e2u {nm : ByteArray} {pa rg : Int} {c : List Ins} (hc : CodeOk c) : PC Tryz.prog Gl 47 [.agg [.str nm, .int .i64 pa, .int .i64 rg, .list 5 (inss c)], .int .i64 (-1)] (.list 1 (a2h (rcL c))) := by
 have h1000 := hc.n1000
 have hne := hc.ne
 have hne1 : (0 : Int) < (c.length : Int) := by omega
 have hne2 : ¬ c.length = 0 := by omega
 have hs1 : (c.length : Int) <= 4611686018427387904 := by omega
 have hs2 : (c.length : Int) <= 281474976710656 := by omega
 have hm0 : (a2h (List.replicate c.length false)).modify 0 (fun r => FV.bool true :: r.tail) = a2h (mk1 (List.replicate c.length false) 0) := a3g _ 0 true (by simpa using hne)
 have hg0 : (a2h (List.replicate c.length false))[0]? = some [.bool false] := by
  rw [a3z (by simpa using hne)]; simp
 refine a3s (res := [.tmp 4]) 10 71 [] (fun d ix => 0 :: d :: ix) (fn := Tryz.f47) (by kernel_rfl) (by rfl) (by rfl) (by rfl) (by simp) (by decide) ?_
 repeat' first
  | ((with_reducible refine a1a ?_); refine a1q (σ := {y : List Bool × Bool // Swp c y.1 y.2}) (fun y => [(6, .bool y.1.2), (7, .undef), (8, .undef), (9, .undef)]) [] (fun y => []) [] (fun y => [([0, 13], .cells 4 1 (a2h y.1.1))]) (fun y => noH) (fun y => muS y.1.1 y.1.2) ⟨(mk1 (List.replicate c.length false) 0, true), Swp.init hc⟩ (gk3 (j := 0) [] (Bs.pc _) ?_ ?_ ?_ ?_ ?_ ?_ ?_) ?_; (iterate 7 (focus (first | rfl | (simp [LPXB, *, SIMB, hdN, injB, a0d, a0f, a1s, mk1]; done)))); rintro ⟨⟨l, mr⟩, hS⟩; simp only [lpS, LPXB]; (try dsimp only at hS); have hln := hS.len; cases mr; have hfin := hS.fin hc; have hrl := a9u c; have htk : (rcL c).take c.length = rcL c := tL_ (by rw [a9u]; exact nr_ _); rotate_left)
  | ((with_reducible refine a1a ?_); refine a1q (σ := {y : Nat × (List Bool × Bool) // y.1 <= c.length /\ rdN c l y.1 = y.2.1 /\ chg l y.2.1 y.2.2}) (fun y => [(6, .bool y.1.2.2), (7, .int .i64 (y.1.1 : Int)), (8, .undef), (9, .undef)]) [] (fun y => []) [] (fun y => [([0, 13], .cells 4 1 (a2h y.1.2.1))]) (fun y => noH) (fun y => c.length - y.1.1) ⟨(0, (l, false)), by simp, rfl, f8y l⟩ (gk3 (j := 0) [] (Bs.pc _) ?_ ?_ ?_ ?_ ?_ ?_ ?_) ?_; (iterate 7 (focus (first | rfl | (simp [LPXB, *, SIMB, hdN, injB, a0d, a0f, a1s]; done)))); rintro ⟨⟨i, l1, m1⟩, hi, he, hg⟩; simp only [lpS, LPXB]; (try dsimp only at hi he hg); have hl1 : l1.length = c.length := (by rw [<- he, b1l]; exact hln); rcases a0z hi with hlt | ⟨hlt, e⟩; rotate_left; subst e; subst he; obtain ⟨hS2, hmu⟩ := hS.next hc hg; rotate_left; have wi := wli hlt (by omega); have hnl : (nx c i).length <= 1000 := (b5w c i); have hnb : ∀ o ∈ nx c i, 0 <= o /\ o < (l1.length : Int) := (fun o ho => by obtain ⟨a1, a2, _⟩ := a7y hc ho; omega); by_cases hbi : l1[i]? = some true; have hry := f6x (c := c) (l := l) (k := i) (by rw [he]; exact hbi); rw [he] at hry; rotate_left; have hrn := f6y (c := c) (l := l) (k := i) (by rw [he]; exact hbi); rw [he] at hrn; have hbf : l1[i]'(by omega) = false := (by rw [gE_ (by omega)] at hbi; simpa using hbi); have hga : (a2h l1)[i]? = some [.bool (l1[i]'(by omega))] := a3z (by omega); rw [hbf] at hga; rotate_left)
  | ((with_reducible refine a1a ?_); have hbi' : l1[i]? = some true := hbi; have hry' := hry; refine a1q (σ := {y : Nat × (List Bool × Bool) // y.1 <= (nx c i).length /\ mkL l1 ((nx c i).take y.1) = y.2.1 /\ chg l y.2.1 y.2.2}) (fun y => [(6, .bool y.1.2.2), (9, .int .i64 (y.1.1 : Int))]) [] (fun y => []) [] (fun y => [([0, 13], .cells 4 1 (a2h y.1.2.1))]) (fun y => noH) (fun y => (nx c i).length - y.1.1) ⟨(0, (l1, m1)), by simp, rfl, hg⟩ (gk3 (j := 0) [] (Bs.pc _) ?_ ?_ ?_ ?_ ?_ ?_ ?_) ?_; (iterate 7 (focus (first | rfl | (simp [LPXB, *, SIMB, hdN, injB, a0d, a0f, a1s]; done)))); rintro ⟨⟨k, l2, m2⟩, hk, hek, hgk⟩; simp only [lpS, LPXB]; (try dsimp only at hk hek hgk); have hl2 : l2.length = c.length := (by rw [<- hek, a9v]; exact hl1); have hkp := d9w (l := l1) (s := (nx c i).take k) (fun o ho => hnb o (List.mem_of_mem_take ho)) hbi'; rw [hek] at hkp; have hkt : l2[i]'(by omega) = true := (by rw [gE_ (by omega)] at hkp; simpa using hkp); have hga : (a2h l2)[i]? = some [.bool (l2[i]'(by omega))] := a3z (by omega); rw [hkt] at hga; rcases a0z hk with hlk | ⟨hlk, e⟩; rotate_left; subst e; rw [List.take_length] at hek; rw [hek] at hry; rotate_left; have wk := wli hlk (by omega); obtain ⟨hv0, hv1', _⟩ := a7y hc (gm_ hlk); have hvl : ((nx c i)[k]).toNat < l2.length := (by omega); have hvm1 : ¬ (nx c i)[k] = -1 := (by omega); have hvl2 : (nx c i)[k] < (c.length : Int) := (by omega); have hmt := f2h l1 hlk; rw [hek] at hmt; have hgv : (a2h l2)[((nx c i)[k]).toNat]? = some [.bool (l2[((nx c i)[k]).toNat]'hvl)] := a3z hvl; have hbm := a3g l2 ((nx c i)[k]).toNat true hvl; by_cases hmY : l2[((nx c i)[k]).toNat]? = some true; have hms := d9x hmY; have hmb : l2[((nx c i)[k]).toNat]'hvl = true := (by rw [gE_ hvl] at hmY; simpa using hmY); rw [hmb] at hgv; rw [hms] at hmt; rotate_left; have hmb : l2[((nx c i)[k]).toNat]'hvl = false := (by rw [gE_ hvl] at hmY; simpa using hmY); rw [hmb] at hgv; have hgy := e8r hgk hv0 (by omega) hmY; rotate_left)
  | ((with_reducible refine a1a ?_); have hbf' : l1[i]'(by omega) = false := hbf; have hrn' := hrn; refine a1q (σ := {k : Nat // k = 0}) (fun y => [(6, .bool m1), (9, .int .i64 (y.1 : Int))]) [] (fun y => []) [] (fun y => [([0, 13], .cells 4 1 (a2h l1))]) (fun y => noH) (fun y => 0) ⟨0, rfl⟩ (gk3 (j := 0) [] (Bs.pc _) ?_ ?_ ?_ ?_ ?_ ?_ ?_) ?_; (iterate 7 (focus (first | rfl | (simp [LPXB, *, SIMB, hdN, injB, a0d, a0f, a1s]; done)))); rintro ⟨k, hk⟩; simp only [lpS, LPXB]; (try dsimp only at hk); subst hk)
  | ((with_reducible refine a0q ?_); refine a1b (⟨(k + 1, (l2, m2)), by omega, hmt, hgk⟩) (gk3 (j := 0) [] (Bs.pc _) ?_ ?_ ?_ ?_ ?_ ?_ ?_) ?_; (iterate 7 (focus (first | rfl | (simp [LPXB, *, SIMB, hdN, injB, a0d, a0f, a1s]; done)))); (focus (dsimp only; omega)))
  | ((with_reducible refine a0q ?_); refine a1b (⟨(k + 1, (mk1 l2 (nx c i)[k], true)), by omega, hmt, hgy⟩) (gk3 (j := 0) [] (Bs.pc _) ?_ ?_ ?_ ?_ ?_ ?_ ?_) ?_; (iterate 7 (focus (first | rfl | (simp [LPXB, *, SIMB, hdN, injB, a0d, a0f, a1s, mk1]; done)))); (focus (dsimp only; omega)))
  | ((with_reducible refine a0q ?_); refine a1b (⟨(i + 1, (l2, m2)), by omega, hry, hgk⟩) (gk3 (j := 0) [] (Bs.pc _) ?_ ?_ ?_ ?_ ?_ ?_ ?_) ?_; (iterate 7 (focus (first | rfl | (simp [LPXB, *, SIMB, hdN, injB, a0d, a0f, a1s]; done)))); (focus (dsimp only; omega)))
  | ((with_reducible refine a0q ?_); refine a1b (⟨(i + 1, (l1, m1)), by omega, hrn, hg⟩) (gk3 (j := 0) [] (Bs.pc _) ?_ ?_ ?_ ?_ ?_ ?_ ?_) ?_; (iterate 7 (focus (first | rfl | (simp [LPXB, *, SIMB, hdN, injB, a0d, a0f, a1s]; done)))); (focus (dsimp only; omega)))
  | ((with_reducible refine a0q ?_); refine a1b (⟨(rdN c l c.length, m1), hS2⟩) (gk3 (j := 0) [] (Bs.pc _) ?_ ?_ ?_ ?_ ?_ ?_ ?_) ?_; (iterate 7 (focus (first | rfl | (simp [LPXB, *, SIMB, hdN, injB, a0d, a0f, a1s]; done)))); (focus (dsimp only; omega)))
  | with_reducible first | refine stp ?_ | refine stpK ?_; intro K hK | refine stpC ?_; intro T E hT hE | refine stp2 ?_ ?_ <;> intro h | refine a0g rfl ?_ | refine a1e (b5k hc hlt) (by simp [nls, nl, *, NLXB]) ?_ | refine hpc (b5k hc hlt) (by simp [nls, nl, *, NLXB]) ?_ | refine a0j rfl (lbR rfl) a0i ?_ | refine a0j rfl (lbR rfl) (a0h (by simp [HPXB, ext, upd, *])) ?_ | refine a1g (by decide) (by kernel_rfl) ?_ | refine a0o (by decide) ?_ | refine Kont.go hK ?_; clear hK K | refine KT.go hT ?_; clear hT hE T E | refine KT.go hE ?_; clear hT hE T E
  | simp [*, -List.all_flatten, -List.all_eq_true, DEFB, LENB, asR, a1w, a0d, a4s, a3u, a0f, a1s, a4k, a6m, b6m]
end Go.Je
