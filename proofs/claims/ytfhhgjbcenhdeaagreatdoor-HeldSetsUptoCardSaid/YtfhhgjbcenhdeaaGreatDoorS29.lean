/- Part. -/
import Derived.Test.YtfhhgjbcenhdeaaGreatDoorS26
import Derived.Test.YtfhhgjbcenhdeaaGreatDoorS25
set_option linter.all false
set_option maxRecDepth 100000
set_option maxHeartbeats 0
namespace Go.Je
open Go Go.FM Go.Gv Go.Proofs
variable {Ar : List FV} {B : Heap} {K : Fs -> Prop} {L : LF} {P : Program} {c : List Ins} {f i j k : Nat} {g : List (BitVec 64)} {l : List Int} {m : Bool} {nm : ByteArray} {o : Oper} {ops : Array Oper} {p : Pg} {pa r rg : Int} {rest : List Oper} {s : Fs} {x : Ins}
theorem c_28 (hp : VOk p) {fk : FuncId} (hCT : CT p m fk) (hfk : fnOk Tp fk = true) {Y : Pts} {g : Bool} {pc : Nat} (hf : f < p.fu.length) {X : Ins} (hI : InsOk p p.fu[f] X) (hy : Shp p Y) (hB : BsM p 3 B) (q : X.op = 28) : FCr Tp Gl 141 [.ptr [81] 8 0 0, .agg [.int .i64 (f : Int), .int .i64 (pc : Int)], .agg X.row, .clo fk [] [.ptr [88] 1 0 0]] (HP [] B (MF p Y g)) (OutT p m B (a1x p f pc X) Y g) := by
 have hsv := a0h hp
 have fB : ∀ r, B (3 :: r) = none := fun r => (hB Y g Y g hy hy).fb 3 r yb
 have yl3 := hy.rn
 have yl4 := hy.cn
 have hrr := hp.regs (A5p hf)
 obtain ⟨yl1, yl2⟩ := hy.at hf
 obtain ⟨nr, hnr⟩ : ∃ nr : Nat, p.fu[f].regs = (nr : Int) := ⟨p.fu[f].regs.toNat, by have := hrr.p0; have := hrr.p1; omega⟩
 rw [hnr, A5r] at yl2
 have hnr64 : nr <= 64 := by have := hrr.r64; omega
 have hIa := hI.a
 have hIb := hI.b
 have hIc := hI.c
 have hi1 : ∀ (L : LF) (Z : Pts) (h : Bool), inH (HP L B (MF p Z h)) [88] := fun L Z h => a5m
 have hi2 : ∀ (L : LF) (Z : Pts) (h : Bool), inH (HP L B (MF p Z h)) [81] := fun L Z h => a1g a4j
 have hi3 : ∀ (L : LF) (Z : Pts) (h : Bool), Shp p Z -> inH (HP L B (MF p Z h)) [83, f] := fun L Z h hZ => a1g (a6t (hZ.at hf).1)
 have hbr : opR p p.fu[f] X 102 X.b = true := by have := hI.b; rw [q] at this; exact this
 obtain ⟨k1, k2, k3, k4⟩ := a5e hp (A5p hf) hbr
 obtain ⟨nb, hxb⟩ : ∃ nb : Nat, X.b = (nb : Int) := ⟨X.b.toNat, by omega⟩
 have hnb : nb < p.fu.length := by omega
 have ha26 : X.op = 26 -> X.a < (nr : Int) := fun e => by have := hI.a; rw [e] at this; have := (a7d this (.inl rfl)).2; omega
 refine zd Tryz.f141 [] 16 210 [27, 63, 62, 183, 192, 191, 190] 3 ?_
 repeat' first
  | (refine dx1 ?_; intro K hK)
  | with_reducible first | refine a0f (id := 6) [] 7 a0d yc fun K hK => ?_ | refine a0f (id := 12) [] 8 a0d yc fun K hK => ?_ | refine a0f (id := 17) [] 16 a0d yc fun K hK => ?_ | refine a0f (id := 22) [] 11 a0d yc fun K hK => ?_ | refine a0f (id := 55) [] 12 a0d yc fun K hK => ?_ | refine a2m ?_
  | (refine zj ?_; refine a1c yc (fun d hd => ?_) rfl (c7a hp hCT hfk hf hy hB hnr hI hbr hxb hnb ha26 q ?_ ?_) ?_; (focus (cases hd; exact A5l rfl)); (focus rfl); (focus (first | rfl | (simp [ninL, ninO, a1h, nins, nin, zk, mapO, z15, hdN, *]; done))); (rintro r' H' ⟨rfl, Z2, h2, rfl, hZ2, hT2⟩))
  | (refine zf ?_; refine a4y (j := 3) (hB _ _ _ _ hy hZ2) rfl ⟨rfl, Z2, h2, rfl, hZ2, hT2.congr (b8c hxb hnb (.inr (.inl q)))⟩ trivial)
  | with_reducible first | refine a2w ?_ | refine a4r ?_ | refine wh ?_; intro K hK | refine yo ?_ | refine stpC ?_; intro T E hT hE | refine stp2 ?_ ?_ <;> intro h | refine yg ?_; clear hK K | refine yh ?_; clear hT hE T E
  | simp [*, -List.all_flatten, -List.all_eq_true, DEFM, fB, yu, hdN, zt, anR, y3, rmvs, za, FnD.row, Ins.row, zz]
theorem c_31 (hp : VOk p) {fk : FuncId} (hCT : CT p m fk) (hfk : fnOk Tp fk = true) {Y : Pts} {g : Bool} {pc : Nat} (hf : f < p.fu.length) {X : Ins} (hI : InsOk p p.fu[f] X) (hy : Shp p Y) (hB : BsM p 3 B) (q : X.op = 31) : FCr Tp Gl 141 [.ptr [81] 8 0 0, .agg [.int .i64 (f : Int), .int .i64 (pc : Int)], .agg X.row, .clo fk [] [.ptr [88] 1 0 0]] (HP [] B (MF p Y g)) (OutT p m B (a1x p f pc X) Y g) := by
 have hsv := a0h hp
 have fB : ∀ r, B (3 :: r) = none := fun r => (hB Y g Y g hy hy).fb 3 r yb
 have yl3 := hy.rn
 have yl4 := hy.cn
 have hrr := hp.regs (A5p hf)
 obtain ⟨yl1, yl2⟩ := hy.at hf
 obtain ⟨nr, hnr⟩ : ∃ nr : Nat, p.fu[f].regs = (nr : Int) := ⟨p.fu[f].regs.toNat, by have := hrr.p0; have := hrr.p1; omega⟩
 rw [hnr, A5r] at yl2
 have hnr64 : nr <= 64 := by have := hrr.r64; omega
 have hIa := hI.a
 have hIb := hI.b
 have hIc := hI.c
 have hi1 : ∀ (L : LF) (Z : Pts) (h : Bool), inH (HP L B (MF p Z h)) [88] := fun L Z h => a5m
 have hi2 : ∀ (L : LF) (Z : Pts) (h : Bool), inH (HP L B (MF p Z h)) [81] := fun L Z h => a1g a4j
 have hi3 : ∀ (L : LF) (Z : Pts) (h : Bool), Shp p Z -> inH (HP L B (MF p Z h)) [83, f] := fun L Z h hZ => a1g (a6t (hZ.at hf).1)
 have hbr : opR p p.fu[f] X 102 X.b = true := by have := hI.b; rw [q] at this; exact this
 obtain ⟨k1, k2, k3, k4⟩ := a5e hp (A5p hf) hbr
 obtain ⟨nb, hxb⟩ : ∃ nb : Nat, X.b = (nb : Int) := ⟨X.b.toNat, by omega⟩
 have hnb : nb < p.fu.length := by omega
 have ha26 : X.op = 26 -> X.a < (nr : Int) := fun e => by have := hI.a; rw [e] at this; have := (a7d this (.inl rfl)).2; omega
 refine zd Tryz.f141 [] 16 210 [27, 63, 62, 183, 192, 191, 190] 3 ?_
 repeat' first
  | (refine dx1 ?_; intro K hK)
  | with_reducible first | refine a0f (id := 6) [] 7 a0d yc fun K hK => ?_ | refine a0f (id := 12) [] 8 a0d yc fun K hK => ?_ | refine a0f (id := 17) [] 16 a0d yc fun K hK => ?_ | refine a0f (id := 22) [] 11 a0d yc fun K hK => ?_ | refine a0f (id := 55) [] 12 a0d yc fun K hK => ?_ | refine a2m ?_
  | (refine zj ?_; refine a1c yc (fun d hd => ?_) rfl (c7a hp hCT hfk hf hy hB hnr hI hbr hxb hnb ha26 q ?_ ?_) ?_; (focus (cases hd; exact A5l rfl)); (focus rfl); (focus (first | rfl | (simp [ninL, ninO, a1h, nins, nin, zk, mapO, z15, hdN, *]; done))); (rintro r' H' ⟨rfl, Z2, h2, rfl, hZ2, hT2⟩))
  | (refine zf ?_; refine a4y (j := 3) (hB _ _ _ _ hy hZ2) rfl ⟨rfl, Z2, h2, rfl, hZ2, hT2.congr (b8c hxb hnb (.inr (.inr q)))⟩ trivial)
  | with_reducible first | refine a2w ?_ | refine a4r ?_ | refine wh ?_; intro K hK | refine yo ?_ | refine stpC ?_; intro T E hT hE | refine stp2 ?_ ?_ <;> intro h | refine yg ?_; clear hK K | refine yh ?_; clear hT hE T E
  | simp [*, -List.all_flatten, -List.all_eq_true, DEFM, fB, yu, hdN, zt, anR, y3, rmvs, za, FnD.row, Ins.row, zz]
def rol (op : Int) (k : Nat) : Int := if k = 0 then (rI op).1 else if k = 1 then (rI op).2.1 else (rI op).2.2
def vl (x : Ins) (k : Nat) : Int := if k = 0 then x.a else if k = 1 then x.b else x.c
def dfK (x : Ins) : Nat -> List Int
 | 0 => []
 | k + 1 => dfK x k ++ rW (rol x.op k) (vl x k)
theorem c3h (r v : Int) : (rW r v).length <= 1 := by unfold rW; split <;> simp
theorem e0v (x : Ins) : ∀ k, (dfK x k).length <= k
 | 0 => A5s _
 | k + 1 => by
   have := e0v x k
   have := c3h (rol x.op k) (vl x k)
   rw [dfK, A0b]; omega
theorem g7a (h : 1 <= x.op /\ x.op <= 52) : dfK x 3 = dfI x := by
 simp only [dfK, dfI, rol, vl, A2u, A3g]
 generalize x.op = n at h
 rcases Gv.b5i h with rfl | rfl | rfl | rfl | rfl | rfl | rfl | rfl | rfl | rfl | rfl | rfl | rfl | rfl | rfl | rfl | rfl | rfl | rfl | rfl | rfl | rfl | rfl | rfl | rfl | rfl | rfl | rfl | rfl | rfl | rfl | rfl | rfl | rfl | rfl | rfl | rfl | rfl | rfl | rfl | rfl | rfl | rfl | rfl | rfl | rfl | rfl | rfl | rfl | rfl | rfl | rfl <;> simp [rI, rR, rW]
theorem d1b (h : x.op = 51) : dfL x = [] := by simp [dfL, dfI, h, rR, rW]
theorem g0f (h : 1 <= x.op /\ x.op <= 52) (hk : k < 3) : fIdx Tp 9 (.str (rlI x.op)) (.int .i64 (k : Int)) = some (.int .u8 (rol x.op k)) := by
 obtain ⟨⟨i1, i2, i3⟩, -, -⟩ := c7w h
 have : k = 0 \/ k = 1 \/ k = 2 := by omega
 rcases this with rfl | rfl | rfl
 . exact i1
 . exact i2
 . exact i3
theorem g5z (x : Ins) (hk : k < 3) : fIdx Tp 130 (.agg [.int .i64 x.a, .int .i64 x.b, .int .i64 x.c]) (.int .i64 (k : Int)) = some (.int .i64 (vl x k)) := by
 have : k = 0 \/ k = 1 \/ k = 2 := by omega
 rcases this with rfl | rfl | rfl
 . exact g4t _ _ _
 . exact g4s _ _ _
 . exact g4r _ _ _
theorem b7k : ∀ (s l : List Int), (s.foldl a0r l).length <= l.length + s.length
 | [], l => by simp
 | a :: s, l => by
   have h1 := b7k s (a0r l a)
   have h2 := b4w l a
   rw [A2i, A1a]; omega
theorem c6v (x : Ins) : (dfL x).length <= 3 := by
 refine A0a (b7k _ _) ?_
 have h1 := c3h (rR x.op).1 x.a
 have h2 := c3h (rR x.op).2.1 x.b
 have h3 := c3h (rR x.op).2.2 x.c
 simp [dfI]; omega
theorem f9s (hf : f < p.fu.length) (hi : i < p.fu[f].code.length) (h1 : p.fu.length <= 2000000) (h2 : p.fu[f].code.length <= 2000000) (hx : p.fu[f].code[i] = x) (ho : 1 <= x.op /\ x.op <= 52) : Pq 121 [PA p, .int .i64 f, .int .i64 i] (.list 1 (ints (dfL x))) := by
 have hd : (dfI x).foldl a0r [] = dfL x := rfl
 refine yq Tryz.f121 [.tmp 6] 14 72 [45, 44] 0 ?_
 repeat' first
  | (refine yi ?_; refine a0e (σ := {k : Nat // k <= 3}) (fun y => [(11, .sl [0, 90] 1 0 (dfK x y.1).length), (12, .undef), (13, .undef)]) [44] (fun y => [(45, .int .i64 (y.1 : Int))]) [[0, 67], [0, 68]] (fun y => [([0, 90], .cells 3 1 (ints (dfK x y.1)))]) (fun y => noH) (fun y => 3 - y.1) ⟨0, by simp⟩ (gk3 (j := 0) [([0, 90], none)] (Bs.pc _) y41 y41 y41 y41 y41 y41 y41) ?_; rintro ⟨k, hk⟩; simp only [lpS, LPXB]; (try dsimp only at hk); have hdl := e0v x k; have s1 : ((dfK x k).length + 1 + ((dfK x k).length + 1) / 4 + 192) * 8 <= 140737488355328 := ya; have s2 : (dfK x k).length <= 4611686018427387903 := ya; have htq : (ints (dfK x k)).take (dfK x k).length = ints (dfK x k) := A6a (by rw [a0o]; exact A5s _); rcases a0c hk with hlt | ⟨hlt, e⟩; rotate_left; subst e; have h3 := g7a ho; have hdi : (dfI x).length <= 3 := (by rw [<- h3]; exact hdl); rotate_left; have wi := wli hlt ya; have k1 : (k : Int) < 3 := ya; have hr := g0f ho hlt; have hv := g5z x hlt; by_cases ha : rol x.op k = 100; have hdk : dfK x (k + 1) = dfK x k ++ [vl x k] := (by rw [dfK, rW, if_pos (.inl ha)]); rotate_left; by_cases hb : rol x.op k = 68; by_cases hg : 0 <= vl x k; have hdk : dfK x (k + 1) = dfK x k ++ [vl x k] := (by rw [dfK, rW, if_pos (.inr ⟨hb, hg⟩)]); rotate_left; have hdk : dfK x (k + 1) = dfK x k := (by rw [dfK, rW, if_neg (by rintro (h | h); exact ha h; exact hg h.2), A3x]); rotate_left; have hdk : dfK x (k + 1) = dfK x k := (by rw [dfK, rW, if_neg (by rintro (h | h); exact ha h; exact hb h.1), A3x]); rotate_left)
  | (refine ye ?_; refine a0b (⟨k + 1, by omega⟩) (gk3 (j := 0) [([0, 90], some [0, 68])] (Bs.pc _) ym ym ym ym ym ym ym) yf)
  | (refine ye ?_; refine a0b (⟨k + 1, by omega⟩) (gk3 (j := 0) [] (Bs.pc _) ym ym ym ym ym ym ym) yf)
  | (refine wg ?_; refine a3h (d4k (l := [0, 90]) (s := dfI x) yn (by first | simp [HPXB, *] <;> fail | fail) ya) ?_)
  | refine yo ?_
  | (refine stpK ?_; intro K hK)
  | (refine stpC ?_; intro T E hT hE)
  | (refine stp2 ?_ ?_ <;> intro h)
  | refine cpG (t_at hf hi h1 h2 hx) ?_
  | refine cpG (e1l _ ho) ?_
  | (refine yg ?_; clear hK K)
  | (refine yh ?_; clear hT hE T E)
  | simp [*, -List.all_flatten, -List.all_eq_true, yl, asR, a0q, rmvs, rmv, a2r, FV.cellV, a0w, a0o, a0j, a1d, c1a, a0g, d1b, a1z]
theorem d4m (x : Ins) : Pq 80 [.agg [.int .i64 x.op, .int .i64 x.a, .int .i64 x.b, .int .i64 x.c, .int .i64 x.d]] (.bool (lkO x.op)) := by
 refine yq Tryz.f80 [.tmp 2] 3 11 [] 0 ?_
 repeat' first
  | refine yo ?_
  | (refine stpK ?_; intro K hK)
  | (refine stpC ?_; intro T E hT hE)
  | (refine stp2 ?_ ?_ <;> intro h)
  | (refine yg ?_; clear hK K)
  | (refine yh ?_; clear hT hE T E)
  | simp [*, -List.all_flatten, -List.all_eq_true, yl, lkO]
def ixI (l : List Int) (r : Int) : Int := if r ∈ l then (l.idxOf r : Int) else -1
theorem g2k (h : r ∉ l) : ixI l r = -1 := if_neg h
theorem g2m (h : k < l.length) (hn : l[k] ∉ l.take k) : ixI l l[k] = (k : Int) := by
 unfold ixI
 rw [if_pos (A5p h)]
 have h1 := List.idxOf_append (l₁ := l.take k) (l₂ := l.drop k) (a := l[k])
 rw [A2z, if_neg hn, A1r h, List.idxOf_cons_self, A0j] at h1
 rw [h1]; omega
theorem g2l (l : List Int) (r : Int) : decide (0 <= ixI l r) = decide (r ∈ l) := by
 by_cases h : r ∈ l
 . simp [ixI, h]
 . simp [ixI, h]
theorem c5d (h : k < l.length) (hn : r ∉ l.take k) (e : l[k] ≠ r) : r ∉ l.take (k + 1) := by
 rw [A0n h, A0o, A0d]
 rintro (h1 | h1)
 . exact hn h1
 . exact e h1.symm
theorem f2s (hl : l.length <= 1000000000) : Pq 138 [.list 1 (ints l), .int .i64 r] (.int .i64 (ixI l r)) := by
 refine yq Tryz.f138 [.tmp 4] 6 19 [8, 7] 0 ?_
 repeat' first
  | (refine yi ?_; refine a0e (σ := {k : Nat // k <= l.length /\ r ∉ l.take k}) (fun y => [(5, .undef)]) [7] (fun y => [(8, .int .i64 (y.1 : Int))]) [] (fun y => []) (fun y => noH) (fun y => l.length - y.1) ⟨0, by simp, by simp⟩ yt ?_; rintro ⟨k, hk, hn⟩; simp only [lpS, LPXB]; (try dsimp only at hk hn); rcases a0c hk with hlt | ⟨hlt, e⟩; rotate_left; subst e; have hno : ixI l r = -1 := g2k (by simpa using hn); rotate_left; have wi := wli hlt ya; by_cases he : l[k] = r; subst he; have hix := g2m hlt hn; rotate_left; have hne : ¬ r = l[k] := A4f he; have hn' := c5d hlt hn he; rotate_left)
  | (refine ye ?_; refine a0b (⟨k + 1, by omega, hn'⟩) yt yf)
  | refine yo ?_
  | (refine stpK ?_; intro K hK)
  | (refine stpC ?_; intro T E hT hE)
  | (refine stp2 ?_ ?_ <;> intro h)
  | (refine yg ?_; clear hK K)
  | (refine yh ?_; clear hT hE T E)
  | simp [*, -List.all_flatten, -List.all_eq_true, yl, asR, a0q]
theorem e9b (hl : l.length <= 1000000000) : Pq 84 [.list 1 (ints l), .int .i64 r] (.bool (decide (r ∈ l))) := by
 refine yq Tryz.f84 [.tmp 4] 5 9 [] 0 ?_
 repeat' first
  | refine yo ?_
  | (refine stpK ?_; intro K hK)
  | (refine stpC ?_; intro T E hT hE)
  | (refine stp2 ?_ ?_ <;> intro h)
  | refine cpG (f2s hl) ?_
  | (refine yg ?_; clear hK K)
  | (refine yh ?_; clear hT hE T E)
  | simp [*, -List.all_flatten, -List.all_eq_true, yl, asR, a0q, g2l]
structure FOk (p : Pg) (f : Nat) (nm : ByteArray) (pa rg : Int) (c : List Ins) : Prop where
 hf : f < p.fu.length
 e : p.fu[f] = ⟨nm, pa, rg, c⟩
 h1 : p.fu.length <= 2000000
 hc : CodeOk c
 op : ∀ i (h : i < c.length), 1 <= c[i].op /\ c[i].op <= 52
structure BsH (j : Nat) (B : Heap) : Prop where
 fr : ∀ k r, k <= j -> B (k :: r) = none
 clo : Clo B
theorem BsH.bs (h : BsH j B) : Bs (inH (HP [] B noH)) j B noH := ⟨h.fr, fun _ _ _ => rfl, by rw [a3r]; exact h.clo, fun _ h => h⟩
theorem BsH.mono (h : BsH j B) (hi : i <= j) : BsH i B := ⟨fun k r hk => h.fr k r ya, h.clo⟩
theorem BsH.call {i j : Nat} {B : Heap} (h : BsH j B) (L : LF) (hi : i < j) (hl : hdN j (L.map Prod.fst) = true) (ho : ninL (inH (HP L B noH)) L) : BsH i (updL L B) := by
 have := h.bs.call (A := noH) i hi hl ho fun _ h => h
 exact ⟨this.fb, this.clo⟩
theorem FOk.defs (h : FOk p f nm pa rg c) (hi : i < c.length) : Pq 121 [PA p, .int .i64 f, .int .i64 i] (.list 1 (ints (dfL c[i]))) := by
 have hf := h.hf
 have e := h.e
 have hi' : i < p.fu[f].code.length := by rw [e]; exact hi
 have h2 : p.fu[f].code.length <= 2000000 := by rw [e]; have := h.hc.n1000; simp only; omega
 have hx : p.fu[f].code[i] = c[i] := by simp only [e]
 exact f9s h.hf hi' h.h1 h2 hx (h.op i hi)
def u64s (g : List (BitVec 64)) : List (List FV) := g.map fun s => [.int .u64 (s.toNat : Int)]
theorem a3n (g : List (BitVec 64)) : (u64s g).length = g.length := by simp [u64s]
theorem b6b (h : i < (u64s g).length) : (u64s g)[i] = [.int .u64 ((g[i]'(by rwa [a3n] at h)).toNat : Int)] := by simp [u64s]
theorem c7v (g : List (BitVec 64)) (i : Nat) (x : BitVec 64) (h : i < g.length) : (u64s g).modify i (fun r => FV.int .u64 (x.toNat : Int) :: r.tail) = u64s (g.set i x) := by
 refine A0e (by simp [u64s]) fun j h1 h2 => ?_
 rw [A2w]
 split
 . rename_i e
   subst e
   simp [u64s]
 . rename_i e
   simp [u64s, List.getElem_set_ne e]
theorem a9m : ∀ g : List (BitVec 64), nlss (u64s g) = true
 | [] => rfl
 | _ :: g => by simpa [u64s, nlss, nls, nl] using a9m g
theorem c5a (s : BitVec 64) : IntKind.wrap .u64 (s.toNat : Int) = (s.toNat : Int) := by
 have := s.isLt
 simp [IntKind.wrap, IntKind.bits, IntKind.signed]
 omega
theorem e2u {n : Nat} (h : n < 18446744073709551616) : IntKind.wrap .u64 (n : Int) = (n : Int) := by
 simp [IntKind.wrap, IntKind.bits, IntKind.signed]
 omega
theorem b9r (s : BitVec 64) : BitVec.ofInt (IntKind.bits .u64) (s.toNat : Int) = s := by
 show BitVec.ofInt 64 (s.toNat : Int) = s
 simp
theorem g0u (s t : BitVec 64) : IntKind.wrap .u64 ((BitVec.ofInt (IntKind.bits .u64) (s.toNat : Int) ||| BitVec.ofInt (IntKind.bits .u64) (t.toNat : Int)).toNat : Int) = ((s ||| t).toNat : Int) := by
 rw [b9r, b9r]; exact c5a _
theorem c0o (s t : BitVec 64) : IntKind.wrap .u64 ((BitVec.ofInt (IntKind.bits .u64) (s.toNat : Int) &&& BitVec.ofInt (IntKind.bits .u64) (t.toNat : Int)).toNat : Int) = ((s &&& t).toNat : Int) := by
 rw [b9r, b9r]; exact c5a _
theorem d6u (s t : BitVec 64) : IntKind.wrap .u64 ((BitVec.ofInt (IntKind.bits .u64) (s.toNat : Int) &&& ~~~BitVec.ofInt (IntKind.bits .u64) (t.toNat : Int)).toNat : Int) = ((s &&& ~~~t).toNat : Int) := by
 rw [b9r, b9r]; exact c5a _
theorem d6t {u : Int} (h0 : 0 <= u) (h1 : u < 64) : IntKind.wrap .u64 (2 ^ (min u.toNat (IntKind.bits .u64))) = ((BitVec.twoPow 64 u.toNat).toNat : Int) := by
 have h2 : u.toNat < 64 := by omega
 have h3 : 2 ^ u.toNat < 18446744073709551616 := A2b (Nat.pow_lt_pow_right ya h2) yb
 have e : min u.toNat (IntKind.bits .u64) = u.toNat := A0w (by show u.toNat <= 64; omega)
 rw [e, show ((2 : Int) ^ u.toNat) = ((2 ^ u.toNat : Nat) : Int) by simp, e2u h3, BitVec.toNat_twoPow, Nat.mod_eq_of_lt h3]
theorem f2o (hF : FOk p f nm pa rg c) {us : List Int} (hB : BsH 2 B) (hS : B [95, f] = some (.cells 72 11 [[.list 4 (fns p.fu), .list 2 (gbs p.gl), .list 1 (lays p.la), .int .i64 p.main, .int .i64 f, .str nm, .int .i64 pa, .int .i64 rg, .list 5 (inss c), .sl [96, f] 1 0 c.length, .sl [97, f] 1 0 c.length]])) (hu : B [96, f] = some (.cells 3 1 (ints us))) (hg : B [97, f] = some (.cells 68 1 (u64s g))) (hul : us.length = c.length) (hgl : g.length = c.length) (hi : i < c.length) {u : Int} (hui : us[i] = u) (hu64 : u < 64) {x : BitVec 64} (hgi : g[i] = x) : FC Tp Gl 137 [.ptr [95, f] 11 0 0, .int .i64 i] (HP [] B noH) (.int .u64 ((aftB c[i] u x).toNat : Int)) (HP [] B noH) := by
 have hc := hF.hc
 have h1000 := hc.n1000
 have hfr : ∀ r, B (2 :: r) = none := fun r => hB.fr 2 r (A5s _)
 obtain ⟨y, hy⟩ := ex_ (aftB c[i] u x)
 obtain ⟨t, ht⟩ := ex_ (BitVec.twoPow 64 u.toNat)
 have hneg : 0 <= u -> ¬ u < 0 := by omega
 have hsh : 0 <= u -> IntKind.wrap .u64 (2 ^ (min u.toNat (IntKind.bits .u64))) = (t.toNat : Int) := fun h => by rw [<- ht]; exact d6t h hu64
 have hor := g0u x t
 have hnt := d6u x t
 have e1 : 0 <= u -> c[i].op = 39 -> x ||| t = y := fun h0 h => by rw [<- hy, aftB, if_pos h0, if_pos h, ht]
 have e2 : 0 <= u -> ¬ c[i].op = 39 -> x &&& ~~~t = y := fun h0 h => by rw [<- hy, aftB, if_pos h0, if_neg h, ht]
 have e3 : ¬ 0 <= u -> y = x := fun h0 => by rw [<- hy, aftB, if_neg h0]
 have hor2 : 0 <= u -> c[i].op = 39 -> _ := fun h0 h => hor.trans (by rw [e1 h0 h])
 have hnt2 : 0 <= u -> ¬ c[i].op = 39 -> _ := fun h0 h => hnt.trans (by rw [e2 h0 h])
 clear hor hnt e1 e2 ht
 simp only [hy]
 simp at hor2 hnt2
 refine yv Tryz.f137 [.tmp 4] 7 42 [] 2 ?_
 repeat' first
  | ((with_reducible refine b8o (j := 2) hB.bs ?_ ?_ ?_ ?_); (iterate 2 (focus rfl)); (focus (first | rfl | (simp [*]; done))); focus (first | trivial | (simp [nin, nins, a0p, inH, HPXB]; done)))
  | refine yo ?_
  | (refine stpK ?_; intro K hK)
  | (refine stpC ?_; intro T E hT hE)
  | (refine stp2 ?_ ?_ <;> intro h)
  | (refine yg ?_; clear hK K)
  | (refine yh ?_; clear hT hE T E)
  | simp [*, -List.all_flatten, -List.all_eq_true, yl, asR, a0q, Ins.row, a7j, hS, hu, hg, hfr, a3n, b6b]
theorem e3f (hF : FOk p f nm pa rg c) {U I : FV} (hB : BsH 1 B) (hS : B [95, f] = some (.cells 72 11 [[.list 4 (fns p.fu), .list 2 (gbs p.gl), .list 1 (lays p.la), .int .i64 p.main, .int .i64 f, .str nm, .int .i64 pa, .int .i64 rg, .list 5 (inss c), U, I]])) (hi : i < c.length) (r : Int) : FC Tp Gl 134 [.ptr [95, f] 11 0 0, .int .i64 i, .int .i64 r] (HP [] B noH) (.bool (wrB c[i] r)) (HP [] B noH) := by
 have hc := hF.hc
 have h1000 := hc.n1000
 have hfr : ∀ r, B (1 :: r) = none := fun r => hB.fr 1 r (A5s _)
 refine yv Tryz.f134 [.tmp 6] 8 44 [] 1 ?_
 repeat' first
  | ((with_reducible refine b8o (j := 1) hB.bs ?_ ?_ ?_ ?_); (iterate 2 (focus rfl)); (focus (first | rfl | (simp [*]; done))); focus (first | trivial | (simp [nin, nins, a0p, inH, HPXB]; done)))
  | with_reducible first | refine a0n (id := 2) 28 a0d yc fun K hK => ?_ | refine yo ?_ | refine stpK ?_; intro K hK | refine stpC ?_; intro T E hT hE | refine stp2 ?_ ?_ <;> intro h | refine cpG (hF.defs hi) ?_ | refine cpG (e9b (A0a (c6v _) yb)) ?_ | refine yg ?_; clear hK K | refine yh ?_; clear hT hE T E
  | simp [*, -List.all_flatten, -List.all_eq_true, yl, asR, a0q, Ins.row, a7j, hS, hfr, wrB]
def GA (f : Nat) (g : List (BitVec 64)) : Heap := upd noH [97, f] (.cells 68 1 (u64s g))
theorem d3u (f : Nat) (g : List (BitVec 64)) : GA f g [97, f] = some (.cells 68 1 (u64s g)) := by simp [GA, upd]
theorem b8l (f : Nat) (g : List (BitVec 64)) {r : List Nat} (h : k ≠ 97) : GA f g (k :: r) = none := by simp [GA, upd, noH, h]
theorem f1j (f : Nat) (g g' : List (BitVec 64)) : upd (GA f g) [97, f] (.cells 68 1 (u64s g')) = GA f g' := by
 funext k
 by_cases e : k = [97, f] <;> simp [GA, upd, e]
theorem f8j (L : LF) (B : Heap) (f : Nat) (g : List (BitVec 64)) : HP L B (GA f g) [97, f] = some (.cells 68 1 (u64s g)) := by unfold HP ext; rw [d3u]
theorem g5j (L : LF) (B : Heap) (f : Nat) (g g' : List (BitVec 64)) : upd (HP L B (GA f g)) [97, f] (.cells 68 1 (u64s g')) = HP L B (GA f g') := by
 unfold HP; rw [<- a8m, f1j]
theorem g5q (g g' : List (BitVec 64)) (l : FM.Loc) (h : GA f g l ≠ none) : GA f g' l ≠ none := by
 by_cases e : l = [97, f]
 . subst e; rw [d3u]; simp
 . exfalso; apply h; simp [GA, upd, e, noH]
structure BsG (j f : Nat) (B : Heap) : Prop where
 fr : ∀ k r, k <= j -> B (k :: r) = none
 clo : ∀ g, Clo (ext B (GA f g))
theorem BsG.bs (h : BsG j f B) (hj : j < 97) (g0 g : List (BitVec 64)) : Bs (inH (HP [] B (GA f g0))) j B (GA f g) := ⟨h.fr, fun k r hk => b8l f g ya, h.clo g, fun l hl hn => by
 rw [a0s] at hn
 refine hl (a0s.2 ⟨?_, hn.2⟩)
 cases e : GA f g0 l with
 | none => rfl
 | some o => exact absurd hn.1 (g5q g0 g l z1e)⟩
theorem BsG.toH (h : BsG j f B) (hj : j < 97) (g : List (BitVec 64)) : BsH j (ext B (GA f g)) := ⟨fun k r hk => a0s.2 ⟨b8l f g ya, h.fr k r hk⟩, h.clo g⟩
theorem BsG.mono (h : BsG j f B) (hi : i <= j) : BsG i f B := ⟨fun k r hk => h.fr k r ya, h.clo⟩
theorem BsG.call {j f : Nat} {B : Heap} (h : BsG j f B) (i : Nat) {L : LF} (hi : i < j) (hj : j < 97) (hl : hdN j (L.map Prod.fst) = true) (ho : ∀ g, ninL (inH (HP L B (GA f g))) L) : BsG i f (updL L B) :=
 ⟨((h.bs hj [] []).call (A := GA f []) i hi hl (ho []) fun _ h => h).fb, fun g => ((h.bs hj [] g).call (A := GA f g) i hi hl (ho g) fun _ h => h).clo⟩
def usL (c : List Ins) : List Int := (List.range c.length).map fun i => usC c i
theorem a7b (c : List Ins) : (usL c).length = c.length := by simp [usL]
theorem d4g (h : i < (usL c).length) : (usL c)[i] = usC c i := by simp [usL]
theorem f6m (o : BitVec 64) (s : List (BitVec 64) × Bool) (w : Int) : (edB o s w).1.length = s.1.length := by
 unfold edB
 split
 . rfl
 . split
   . rfl
   . simp
theorem c1z (o : BitVec 64) : ∀ (l : List Int) (s : List (BitVec 64) × Bool), (edsB o s l).1.length = s.1.length
 | [], _ => rfl
 | w :: l, s => by
   have := c1z o l (edB o s w)
   rw [f6m] at this
   exact this
theorem f4d (c : List Ins) (s : List (BitVec 64) × Bool) (i : Nat) : (pcC c s i).1.length = s.1.length := by
 unfold pcC
 split
 . simp
 . unfold stR
   split
   . rfl
   . exact c1z _ _ _
theorem c8r (c : List Ins) (a : Nat) (g : List (BitVec 64)) : ∀ k, (rndC c a g k).1.length = g.length
 | 0 => rfl
 | k + 1 => by rw [rndC, f4d, c8r c a g k]
theorem g3r {o : BitVec 64} {w : Int} (h : w.toNat < g.length) : edB o (g, m) w = if g[w.toNat] &&& o = g[w.toNat] then (g, m) else (g.set w.toNat (g[w.toNat] &&& o), true) := by
 unfold edB
 simp only [A5n h]
theorem gD (h : i < g.length) : g.getD i 0 = g[i] := by rw [A5m, A5n h]; rfl
theorem d1e {c : Cfg} {f : FuncId} {r : FV} {A : Heap} (hs : s.H = HP L B A) (hfc : FC P c.G f Ar (HP [] (ext (updL L B) A) noH) r (HP [] (ext (updL L B) A) noH)) (h : StK P c ops rest K (putD c o r s)) : a9b P c ops o rest K s f true Ar := by
 refine ⟨rfl, r, HP L B A, by rw [hs]; exact hfc, ?_⟩
 rw [<- hs]
 exact h
theorem f2e (hF : FOk p f nm pa rg c) (hu64 : ∀ i, usC c i < 64) (hB : BsG 3 f B) (hS : B [95, f] = some (.cells 72 11 [[.list 4 (fns p.fu), .list 2 (gbs p.gl), .list 1 (lays p.la), .int .i64 p.main, .int .i64 f, .str nm, .int .i64 pa, .int .i64 rg, .list 5 (inss c), .sl [96, f] 1 0 c.length, .sl [97, f] 1 0 c.length]])) (hu : B [96, f] = some (.cells 3 1 (ints (usL c)))) (hgl : g.length = c.length) {a n e1 : Nat} (hane : a + n = e1) (han : e1 <= c.length) {nb : List Int} : FC Tp Gl 83 [.ptr [95, f] 11 0 0, .agg [.int .i64 (a : Int), .int .i64 (e1 : Int), .list 1 (ints nb)]] (HP [] B (GA f g)) (.bool (rndC c a g n).2) (HP [] B (GA f (rndC c a g n).1)) := by
 have hc := hF.hc
 have h1000 := hc.n1000
 have hfr : ∀ r, B (3 :: r) = none := fun r => hB.fr 3 r (A5s _)
 have hB2 : BsG 2 f (updL [([3, 3], FO.cells 87 3 [[.int .i64 (a : Int), .int .i64 (e1 : Int), .list 1 (ints nb)]])] B) := hB.call 2 yb yb rfl fun g => ⟨⟨⟨trivial, trivial, a0g nb, trivial⟩, trivial⟩, trivial⟩
 refine yv Tryz.f83 [.tmp 4] 11 84 [53, 52, 51] 3 ?_
 repeat' first
  | ((with_reducible refine b8o (j := 3) (hB.bs yb _ _) ?_ ?_ ?_ ?_); (iterate 2 (focus rfl)); (focus (first | rfl | (simp [*]; done))); focus (first | trivial | (simp [nin, nins, a0p, inH, HPXB]; done)))
  | (refine yi ?_; refine a0e (σ := {y : Nat × Nat // y.1 <= n /\ a + y.1 = y.2}) (fun y => [(5, .bool (rndC c a g y.1.1).2), (6, .int .i64 (y.1.2 : Int)), (7, .undef), (9, .undef), (10, .undef)]) [] (fun y => []) [] (fun y => []) (fun y => GA f (rndC c a g y.1.1).1) (fun y => n - y.1.1) ⟨(0, a), by simp⟩ (gk3 (j := 3) [] (hB.bs yb _ _) y46 y46 y46 y46 y46 y46 y46) ?_; rintro ⟨⟨k, i⟩, hk, hi⟩; simp only [lpS, LPXB]; (try dsimp only at hk hi); have hGl := c8r c a g k; rw [hgl] at hGl; rcases a0c hk with hlt | ⟨hlt, e⟩; rotate_left; subst e; have hie : i = e1 := ya; subst hie; rotate_left; have hnx : rndC c a g (k + 1) = pcC c (rndC c a g k) i := (by rw [<- hi]; rfl); have hlt2 : (i : Int) < (e1 : Int) := ya; have hil : i < c.length := ya; obtain ⟨⟨G, M⟩, hGM⟩ := ex_ (rndC c a g k); simp only [hGM] at hGl hnx ⊢; have wi1 : IntKind.wrap .i64 ((i : Int) + 1) = (i : Int) + 1 := zh; have hiG : i < G.length := ya; by_cases o51 : c[i].op = 51; obtain ⟨m, rfl⟩ : ∃ m, i = m + 1 := ⟨i - 1, by rcases A1v i with e0 | h0; subst e0; exact absurd o51 (hc.h0 hil); omega⟩; have hmG : m < G.length := ya; have hn2 : rndC c a g (k + 1) = (G.set (m + 1) G[m], M) := (by rw [hnx, pcC, opA hil, if_pos o51, A3p, gD hmG]); have hmd := c7v G (m + 1) G[m] hiG; obtain ⟨x, hx⟩ := ex_ (G[m]); rw [hx] at hmd hn2; clear hnx; have wm : IntKind.wrap .i64 (m : Int) = (m : Int) := zh; have p1 : (0 : Int) <= (m : Int) + 1 := ya; have p2 : (0 : Int) < (m : Int) + 1 := ya; have wm2 : IntKind.wrap .i64 ((m : Int) + 1 + 1) = (m : Int) + 1 + 1 := zh; have p5 : m < c.length := ya; have hlt3 : (m : Int) + 1 < (e1 : Int) := ya; have p3 : (m : Int) + 1 < (c.length : Int) := ya; have p4 : (m : Int) < (c.length : Int) := ya; rotate_left; obtain ⟨o, ho⟩ := ex_ (aftB c[i] (usC c i) G[i]); have hn2 : rndC c a g (k + 1) = edsB o (G, M) (nx c i) := (by rw [hnx, pcC, opA hil, if_neg o51, c8f hil]; simp only [gD hiG, ho]); clear hnx; rotate_left)
  | (refine yi ?_; refine a0e (σ := {q : Nat // q <= (nx c i).length}) (fun y => [(5, .bool (edsB o (G, M) ((nx c i).take y.1)).2), (9, .undef), (10, .undef)]) [52, 51] (fun y => [(53, .int .i64 (y.1 : Int))]) [] (fun y => []) (fun y => GA f (edsB o (G, M) ((nx c i).take y.1)).1) (fun y => (nx c i).length - y.1) ⟨0, by simp⟩ (gk3 (j := 3) [] (hB.bs yb _ _) y47 y47 y47 y47 y47 y47 y47) ?_; rintro ⟨q, hq⟩; simp only [lpS, LPXB]; (try dsimp only at hq); have hl2 := c1z o ((nx c i).take q) (G, M); simp only [hGl] at hl2; rcases a0c hq with hlq | ⟨hlq, e⟩; rotate_left; subst e; rw [A0c] at hl2 ⊢; obtain ⟨⟨G2, M2⟩, hG2⟩ := ex_ (edsB o (G, M) (nx c i)); simp only [hG2] at hl2 hn2 ⊢; rotate_left; have wq := wli hlq (by have := b6s c i; omega); obtain ⟨v0, v1, _⟩ := a7e hc (A5p hlq); have hte := c4j o (G, M) hlq; obtain ⟨⟨G2, M2⟩, hG2⟩ := ex_ (edsB o (G, M) ((nx c i).take q)); simp only [hG2] at hl2 hte ⊢; have v2 : (nx c i)[q] < (c.length : Int) := ya; have v3 : ((nx c i)[q]).toNat < G2.length := ya; rw [g3r v3] at hte; obtain ⟨x, hx⟩ := ex_ (G2[((nx c i)[q]).toNat]); rw [hx] at hte; obtain ⟨z, hz⟩ := ex_ (x &&& o); rw [hz] at hte; have hra := c0o x o; rw [hz] at hra; simp at hra; have hmd := c7v G2 ((nx c i)[q]).toNat z v3; by_cases hzx : z = x; subst hzx; rw [if_pos rfl] at hte; rotate_left; rw [if_neg hzx] at hte; have hzn : ¬ z.toNat = x.toNat := (fun e => hzx (A3a e)); have hzi : ¬ (z.toNat : Int) = (x.toNat : Int) := ya; rotate_left)
  | (refine ye ?_; refine a0b (⟨q + 1, by omega⟩) yg7 yf)
  | (refine ye ?_; refine a0b (⟨(k + 1, i + 1), by omega, by omega⟩) yg7 yf)
  | (refine ye ?_; refine a0b (⟨(k + 1, m + 1 + 1), by omega, by omega⟩) yg7 yf)
  | (refine wg ?_; refine d1e rfl (f2o (g := G) hF (hB2.toH yb G) (by first | simp [ext, b8l, yw, hS] <;> fail | fail) (by first | simp [ext, b8l, yw, hu] <;> fail | fail) (by first | simp [ext, d3u] <;> fail | fail) (a7b c) hGl hil (d4g (by rw [a7b]; exact hil)) (hu64 i) rfl) ?_)
  | with_reducible first | refine a0n (id := 6) 14 a0d yc fun K hK => ?_ | refine dz9 ?_ | refine stpK ?_; intro K hK | refine stpC ?_; intro T E hT hE | refine stp2 ?_ ?_ <;> intro h | refine cpG (d4w hc hil) ?_ | refine yg ?_; clear hK K | refine yh ?_; clear hT hE T E
  | simp [*, -List.all_flatten, -List.all_eq_true, yl, asR, a0q, Ins.row, a7j, hS, hu, hfr, b8l, d3u, f1j, f8j, g5j, a3n, b6b, bRow]
theorem f9h (hF : FOk p f nm pa rg c) {U I : FV} (hB : BsH 2 B) (hS : B [95, f] = some (.cells 72 11 [[.list 4 (fns p.fu), .list 2 (gbs p.gl), .list 1 (lays p.la), .int .i64 p.main, .int .i64 f, .str nm, .int .i64 pa, .int .i64 rg, .list 5 (inss c), U, I]])) {a : Nat} (hi : i < c.length) (ha : a <= i) : FC Tp Gl 81 [.ptr [95, f] 11 0 0, .int .i64 i, .int .i64 a] (HP [] B noH) (.int .i64 (usB c c[i].a a i)) (HP [] B noH) := by
 have hc := hF.hc
 have h1000 := hc.n1000
 have hfr : ∀ r, B (2 :: r) = none := fun r => hB.fr 2 r (A5s _)
 have wi : IntKind.wrap .i64 ((i : Int) - 1) = (i : Int) - 1 := by rw [IntKind.wrap_i64]; omega
 refine yv Tryz.f81 [.tmp 6] 9 49 [] 2 ?_
 repeat' first
  | ((with_reducible refine b8o (j := 2) hB.bs ?_ ?_ ?_ ?_); (iterate 2 (focus rfl)); (focus (first | rfl | (simp [*]; done))); focus (first | trivial | (simp [nin, nins, a0p, inH, HPXB]; done)))
  | (refine yi ?_; refine a0e (σ := {y : Nat // a <= y /\ y <= i /\ usB c c[i].a a y = usB c c[i].a a i}) (fun y => [(8, .int .i64 ((y.1 : Int) - 1))]) [] (fun y => []) [] (fun y => []) (fun y => noH) (fun y => y.1) ⟨i, ha, A5s _, rfl⟩ (gk3 (j := 2) [] hB.bs yx yx yx yx yx yx yx) ?_; rintro ⟨y, h1, h2, he⟩; simp only [lpS, LPXB]; (try dsimp only at h1 h2 he); rcases Nat.eq_or_lt_of_le h1 with e | hlt; subst e; rw [d4h (A5s _)] at he; have hlt : (a : Int) - 1 < (a : Int) := ya; have hnl : ¬ (a : Int) <= (a : Int) - 1 := ya; rotate_left; obtain ⟨m, rfl⟩ : ∃ m, y = m + 1 := ⟨y - 1, by omega⟩; have hml : m < c.length := ya; rw [f9d hml ya] at he; have g0 : (a : Int) <= (m : Int) := ya; have wm : IntKind.wrap .i64 ((m : Int) - 1) = (m : Int) - 1 := zh; have pm : ((m + 1 : Nat) : Int) - 1 = (m : Int) := ya; by_cases hw : wrB c[m] c[i].a = true; rw [if_pos hw] at he; by_cases h18 : c[m].op = 18; rw [if_pos h18] at he; rotate_left; rw [if_neg h18] at he; rotate_left; have hwf : wrB c[m] c[i].a = false := (by simpa using hw); rw [if_neg hw] at he; rotate_left)
  | (refine ye ?_; refine a0b (⟨m, by omega, by omega, he⟩) (gk3 (j := 2) [] hB.bs yx yx yx yx yx yx yx) yf)
  | (refine wg ?_; refine a3h (e3f hF (hB.mono yb) hS hml _) ?_)
  | refine yo ?_
  | (refine stpK ?_; intro K hK)
  | (refine stpC ?_; intro T E hT hE)
  | (refine stp2 ?_ ?_ <;> intro h)
  | (refine yg ?_; clear hK K)
  | (refine yh ?_; clear hT hE T E)
  | simp [*, -List.all_flatten, -List.all_eq_true, yl, asR, a0q, Ins.row, a7j, hS, hfr]
theorem b9z {k : FM.Loc} (h : B k ≠ none) : updL L B k ≠ none := by
 induction L with
 | nil => exact h
 | cons p L ih =>
   rw [show p = (p.1, p.2) from rfl, a3g]
   split
   . simp
   . exact ih
theorem BsH.callS (h : BsH j B) (i : Nat) (hi : i <= j) (hn : (L.all fun p => decide (i < p.1.headD 0)) = true) (ho : ninL (inH (HP L B noH)) L) : BsH i (updL L B) := by
 refine ⟨fun k r hk => ?_, fun l o hl => ?_⟩
 . rw [a3i fun p hp e => ?_]
   . exact h.fr k r ya
   . have := List.all_eq_true.1 hn p hp
     rw [e] at this
     simp at this
     omega
 . rcases a4k hl with h1 | ⟨_, h1⟩
   . exact a8e ho _ h1
   . exact a1t (fun q hq => b9z hq) (h.clo l o h1)
theorem a5t (U : FM.Loc -> Prop) : ∀ x : List (BitVec 64), a1h U (u64s x)
 | [] => trivial
 | _ :: x => ⟨⟨trivial, trivial⟩, a5t U x⟩
theorem a6c (U : FM.Loc -> Prop) : ∀ x : List Int, a1h U (ints x)
 | [] => trivial
 | _ :: x => ⟨⟨trivial, trivial⟩, a6c U x⟩
theorem BsH.toG {H : Heap} (h : BsH j H) : BsG j f H := ⟨h.fr, fun g l o hl => by
 by_cases e : l = [97, f]
 . subst e
   have : ext H (GA f g) [97, f] = some (.cells 68 1 (u64s g)) := a6h (d3u f g)
   rw [this] at hl
   obtain rfl := A5o hl
   exact a5t _ g
 . have hA : GA f g l = none := by simp [GA, upd, noH, e]
   have : ext H (GA f g) l = H l := b7u hA
   rw [this] at hl
   refine a1t (fun q hq => ?_) (h.clo l o hl)
   intro hn
   exact hq (a0s.1 hn).2⟩
theorem e7u {c : Cfg} {fn : Nat} {r : FV} {g' : List (BitVec 64)} (hs : s.H = HP L B noH) (hg : HP L B noH [97, f] = some (.cells 68 1 (u64s g)))
 (hfc : FC P c.G fn Ar (HP [] (updL L B) (GA f g)) r (HP [] (updL L B) (GA f g'))) (h : StK P c ops rest K (putD c o r { s with H := upd (HP L B noH) [97, f] (.cells 68 1 (u64s g')) })) : a9b P c ops o rest K s fn true Ar := by
 have e : ∀ g', HP [] (updL L B) (GA f g') = upd (HP L B noH) [97, f] (.cells 68 1 (u64s g')) := fun g' => by
  funext k
  by_cases ek : k = [97, f]
  . subst ek
    rw [f8j]; simp [upd]
  . have hA : GA f g' k = none := by simp [GA, upd, noH, ek]
    rw [a7j hA, a4l]
    simp only [upd, if_neg ek]; rfl
 rw [e, e, a9z hg] at hfc
 exact ⟨rfl, r, _, by rw [hs]; exact hfc, h⟩
theorem e7v {c : Cfg} {f : FuncId} {r : FV} (hs : s.H = HP L B noH) (hfc : FC P c.G f Ar (HP [] (updL L B) noH) r (HP [] (updL L B) noH)) (h : StK P c ops rest K (putD c o r s)) : a9b P c ops o rest K s f true Ar := by
 refine ⟨rfl, r, HP L B noH, by rw [hs]; exact hfc, ?_⟩
 rw [<- hs]
 exact h
theorem g2d (hB : BsH j B) {L' : LF} {r : FV} (hl : ∀ p ∈ L, B p.1 = none) (hL : ∀ p ∈ L', HP L B noH p.1 = some p.2) (hr : nin (inH (HP L' B noH)) r) (ho : ninL (inH (HP L' B noH)) L') : LFin (HP [] B noH) (fun r1 H1 => r1 = r /\ H1 = HP L' B noH) (HP L B noH) (some [r]) := by
 refine ⟨_, ⟨rfl, rfl⟩, fun k o hk => ?_, fun k hk => b9z hk, hr, fun k o hk => ?_⟩
 . rcases a4k hk with h | ⟨h, h2⟩
   . exact hL _ h
   . show updL L B k = some o
     rw [a3i fun p hp ep => ?_]
     . exact h2
     . have := hl p hp
       rw [ep, h2] at this; cases this
 . rcases a4k hk with h | ⟨_, h⟩
   . exact a8e ho _ h
   . exact a1t (fun q hq => b9z hq) (hB.clo k o h)
def stJ (c : List Ins) (j : Nat) : Nat := match (blks c)[j]? with
 | some b => b.1
 | none => c.length
theorem c2y (h : j < (blks c).length) : stJ c j = (blks c)[j].1 := by
 unfold stJ; rw [A5n h]
theorem g6q (hc : CodeOk c) : stJ c 0 = 0 := by
 rw [c2y (b5u hc)]
 exact d1j (b5u hc)
theorem g6p (hc : CodeOk c) (h : j < (blks c).length) : stJ c (j + 1) = (blks c)[j].2 := by
 by_cases h1 : j + 1 < (blks c).length
 . rw [c2y h1]; exact c7c hc h1
 . have e : (blks c)[j]? = (blks c)[(blks c).length - 1]? := by rw [show (blks c).length - 1 = j by omega]
   have h2 := f7j (c := c) (k := c.length) (b5u hc)
   rw [c5n hc] at h2
   unfold stJ
   rw [A5y ya]
   rw [<- h2]
   have e3 : (blks c).length - 1 = j := by omega
   simp only [show (bkF c c.length) = blks c from rfl, e3]
theorem f3a (c : List Ins) : stJ c (blks c).length = c.length := by
 unfold stJ; rw [A5y (A5s _)]
theorem g0w (h : i < (g0B 64 c).length) : (g0B 64 c)[i] = (g0B 64 c).getD i 0 := by rw [A5m, A5n h]; rfl
theorem f9b (h : i < c.length) : ints ((usL c).take i) ++ [[.int .i64 (usC c i)]] = ints ((usL c).take (i + 1)) := by
 rw [A0n (by rw [a7b]; exact h), d4g]
 simp [ints, a0j]
theorem g2x (h : i < c.length) {w : BitVec 64} (hw : (g0B 64 c).getD i 0 = w) : u64s ((g0B 64 c).take i) ++ [[.int .u64 (w.toNat : Int)]] = u64s ((g0B 64 c).take (i + 1)) := by
 have hl : i < (g0B 64 c).length := by rw [a7g]; exact h
 rw [A0n hl, g0w hl, hw]
 simp [u64s]
theorem e4o : IntKind.wrap .u64 ((BitVec.ofInt (IntKind.bits .u64) (if (IntKind.signed .u64) = true then -1 else IntKind.max .u64) ^^^ BitVec.ofInt (IntKind.bits .u64) 0).toNat : Int) = ((BitVec.allOnes 64).toNat : Int) := by decide
theorem g4d {B : List (Nat × Nat)} (h : i < (bxV c B).length) : (bxV c B)[i] = bRow (B[i]'(by rwa [a5i] at h)) (.list 1 (ints (nxB c (B[i]'(by rwa [a5i] at h))))) := by simp [bxV]
structure BsL (f : Nat) (B : Heap) : Prop where
 fr : ∀ k r, k <= 5 -> B (k :: r) = none
 f95 : B [95, f] = none
 f96 : B [96, f] = none
 f97 : B [97, f] = none
 clo : Clo B
theorem BsL.toH (h : BsL f B) : BsH 5 B := ⟨h.fr, h.clo⟩
theorem BsL.c5 (h : BsL f B) : Clo (ext B noH) := by rw [a3r]; exact h.clo
theorem BsL.l5 (_ : BsL f B) : ∀ l, inH (HP [] B noH) l -> ext B noH l ≠ none := fun _ h => h
theorem e3d : u64s [] = [] := rfl
def rrl (op : Int) (k : Nat) : Int := if k = 0 then (rR op).1 else if k = 1 then (rR op).2.1 else (rR op).2.2
def dfR (x : Ins) : Nat -> List Int
 | 0 => []
 | k + 1 => dfR x k ++ rW (rrl x.op k) (vl x k)
theorem e9v (k : Nat) (l : List Int) (v : FV) : mV (ouW k l) v = [] := by cases k <;> rfl
theorem e0u (x : Ins) : dfR x 0 = [] := rfl
theorem g9c (x : Ins) : dfR x 3 = dfI x := by simp [dfR, dfI, rrl, vl]
theorem e0t (x : Ins) : ∀ k, (dfR x k).length <= k
 | 0 => A5s _
 | k + 1 => by
   have := e0t x k
   have := c3h (rrl x.op k) (vl x k)
   simp only [dfR, A0b]; omega
theorem b3u (x : Ins) (hk : k <= 3) : ((dfR x k).foldl a0r []).length <= 999999990 := by
 have h1 := b7k (dfR x k) []
 have h2 := e0t x k
 simp only [A3w] at h1
 omega
theorem d3m (h : rrl x.op k = 100 \/ (rrl x.op k = 68 /\ 0 <= vl x k)) : (dfR x (k + 1)).length = (dfR x k).length + 1 /\ (dfR x (k + 1)).foldl a0r [] = a0r ((dfR x k).foldl a0r []) (vl x k) := by
 simp only [dfR, rW, if_pos h]
 exact ⟨by simp, by rw [A0z]; rfl⟩
theorem d3n (h : ¬ (rrl x.op k = 100 \/ (rrl x.op k = 68 /\ 0 <= vl x k))) : dfR x (k + 1) = dfR x k := by
 simp only [dfR, rW, if_neg h, A3x]
theorem e4u {H : Heap} {m : Nat} (h0 : k = 0 -> l = []) : PFin (frz H (m + 1) (ouW k l)) (.list 1 (ints l)) := by
 cases k with
 | zero => rw [h0 rfl]; exact .inr ⟨1, rfl⟩
 | succ k => simp [ouW, frz, PFin, asR, nl, a0g]
structure InsD (x : Ins) : Prop where
 op : 1 <= x.op /\ x.op <= 52
 v0 : (rR x.op).1 = 100 -> 0 <= x.a
 v1 : (rR x.op).2.1 = 100 -> 0 <= x.b
 v2 : (rR x.op).2.2 = 100 -> 0 <= x.c
theorem f2x (hf : f < p.fu.length) (hi : i < p.fu[f].code.length) (h1 : p.fu.length <= 2000000) (h2 : p.fu[f].code.length <= 2000000) (hx : p.fu[f].code[i] = x) (hD : InsD x) : Pq 51 [PA p, .int .i64 f, .int .i64 i] (.list 1 (ints (dfL x))) := by
 obtain ⟨-, ⟨i0, i1, i2⟩, hne⟩ := c7w hD.op
 have hv0 := hD.v0
 have hv1 := hD.v1
 have hv2 := hD.v2
 have tR := c113 x.op
 have l1 : (f : Int) < (p.fu.length : Int) := by omega
 have l2 : (i : Int) < (p.fu[f].code.length : Int) := by omega
 have l3 : ¬ (p.fu.length : Int) <= (f : Int) := by omega
 have l4 : ¬ (p.fu[f].code.length : Int) <= (i : Int) := by omega
 have w1 : IntKind.wrap .i64 1 = 1 := by decide
 have w2 : IntKind.wrap .i64 2 = 2 := by decide
 have w3 : IntKind.wrap .i64 3 = 3 := by decide
 by_cases h51 : x.op = 51
 all_goals first | (rw [h51] at tR hne i0 i1 i2) | skip
 all_goals
  refine yq Tryz.f51 [.tmp 6] 12 88 [] 0 ?_
  repeat' first
   | (refine yi ?_; refine a0e (σ := {k : Nat // k <= 3}) (fun y => [(7, ouW (dfR x y.1).length ((dfR x y.1).foldl a0r [])), (11, .int .i64 (y.1 : Int))]) [] (fun y => []) [] (fun y => []) (fun y => noH) (fun y => 3 - y.1) ⟨0, by simp⟩ (gk3 (j := 0) [] (Bs.pc _) y33 y33 y33 y33 y33 y33 y33) ?_; rintro ⟨k, hk⟩; simp only [lpS, LPXB]; (try dsimp only at hk); have h4 : k = 0 \/ k = 1 \/ k = 2 \/ k = 3 := ya; rcases h4 with rfl | rfl | rfl | rfl; rotate_right; have h30 := g9c x; have hp3 : (dfI x).length = 0 -> dfL x = [] := (fun e => by unfold dfL; rw [A5u e]; rfl); have hdL : (dfI x).foldl a0r [] = dfL x := rfl; rotate_left; obtain ⟨r, hr⟩ := ex_ ((rR x.op).1); rw [hr] at i0 hv0; have hrl : rrl x.op 0 = r := hr; obtain ⟨v, hvv⟩ := ex_ (vl x 0); have hvx : x.a = v := hvv; by_cases ha : r = 100; subst ha; have hg := hv0 rfl; rw [hvx] at hg; obtain ⟨hl2, hf2⟩ : (dfR x 1).length = (dfR x 0).length + 1 /\ (dfR x 1).foldl a0r [] = a0r ((dfR x 0).foldl a0r []) (vl x 0) := d3m (x := x) (k := 0) (.inl hrl); have hq0 : (dfR x 0).length = 0 -> (dfR x 0).foldl a0r [] = [] := (fun e => by rw [A5u e]; rfl); have tW := b1b (k := (dfR x 0).length) (l := (dfR x 0).foldl a0r []) v hq0 (b3u x (by omega : 0 <= 3)); rw [hvv] at hf2; rw [<- hf2] at tW; clear hf2 hq0; simp only [e0u, A3w, A2h, d2u] at tW; rotate_left; by_cases hb : r = 68; subst hb; by_cases hg : 0 <= v; obtain ⟨hl2, hf2⟩ : (dfR x 1).length = (dfR x 0).length + 1 /\ (dfR x 1).foldl a0r [] = a0r ((dfR x 0).foldl a0r []) (vl x 0) := d3m (x := x) (k := 0) (.inr ⟨hrl, by rw [hvv]; exact hg⟩); have hq0 : (dfR x 0).length = 0 -> (dfR x 0).foldl a0r [] = [] := (fun e => by rw [A5u e]; rfl); have tW := b1b (k := (dfR x 0).length) (l := (dfR x 0).foldl a0r []) v hq0 (b3u x (by omega : 0 <= 3)); rw [hvv] at hf2; rw [<- hf2] at tW; clear hf2 hq0; simp only [e0u, A3w, A2h, d2u] at tW; rotate_left; have hdk : dfR x 1 = dfR x 0 := d3n (x := x) (k := 0) z3b; rotate_left; have hdk : dfR x 1 = dfR x 0 := d3n (x := x) (k := 0) z3c; rotate_left; obtain ⟨r, hr⟩ := ex_ ((rR x.op).2.1); rw [hr] at i1 hv1; have hrl : rrl x.op 1 = r := hr; obtain ⟨v, hvv⟩ := ex_ (vl x 1); have hvx : x.b = v := hvv; by_cases ha : r = 100; subst ha; have hg := hv1 rfl; rw [hvx] at hg; obtain ⟨hl2, hf2⟩ : (dfR x 2).length = (dfR x 1).length + 1 /\ (dfR x 2).foldl a0r [] = a0r ((dfR x 1).foldl a0r []) (vl x 1) := d3m (x := x) (k := 1) (.inl hrl); have hq0 : (dfR x 1).length = 0 -> (dfR x 1).foldl a0r [] = [] := (fun e => by rw [A5u e]; rfl); have tW := b1b (k := (dfR x 1).length) (l := (dfR x 1).foldl a0r []) v hq0 (b3u x (by omega : 1 <= 3)); rw [hvv] at hf2; rw [<- hf2] at tW; clear hf2 hq0; rotate_left; by_cases hb : r = 68; subst hb; by_cases hg : 0 <= v; obtain ⟨hl2, hf2⟩ : (dfR x 2).length = (dfR x 1).length + 1 /\ (dfR x 2).foldl a0r [] = a0r ((dfR x 1).foldl a0r []) (vl x 1) := d3m (x := x) (k := 1) (.inr ⟨hrl, by rw [hvv]; exact hg⟩); have hq0 : (dfR x 1).length = 0 -> (dfR x 1).foldl a0r [] = [] := (fun e => by rw [A5u e]; rfl); have tW := b1b (k := (dfR x 1).length) (l := (dfR x 1).foldl a0r []) v hq0 (b3u x (by omega : 1 <= 3)); rw [hvv] at hf2; rw [<- hf2] at tW; clear hf2 hq0; rotate_left; have hdk : dfR x 2 = dfR x 1 := d3n (x := x) (k := 1) z3b; rotate_left; have hdk : dfR x 2 = dfR x 1 := d3n (x := x) (k := 1) z3c; rotate_left; obtain ⟨r, hr⟩ := ex_ ((rR x.op).2.2); rw [hr] at i2 hv2; have hrl : rrl x.op 2 = r := hr; obtain ⟨v, hvv⟩ := ex_ (vl x 2); have hvx : x.c = v := hvv; by_cases ha : r = 100; subst ha; have hg := hv2 rfl; rw [hvx] at hg; obtain ⟨hl2, hf2⟩ : (dfR x 3).length = (dfR x 2).length + 1 /\ (dfR x 3).foldl a0r [] = a0r ((dfR x 2).foldl a0r []) (vl x 2) := d3m (x := x) (k := 2) (.inl hrl); have hq0 : (dfR x 2).length = 0 -> (dfR x 2).foldl a0r [] = [] := (fun e => by rw [A5u e]; rfl); have tW := b1b (k := (dfR x 2).length) (l := (dfR x 2).foldl a0r []) v hq0 (b3u x (by omega : 2 <= 3)); rw [hvv] at hf2; rw [<- hf2] at tW; clear hf2 hq0; rotate_left; by_cases hb : r = 68; subst hb; by_cases hg : 0 <= v; obtain ⟨hl2, hf2⟩ : (dfR x 3).length = (dfR x 2).length + 1 /\ (dfR x 3).foldl a0r [] = a0r ((dfR x 2).foldl a0r []) (vl x 2) := d3m (x := x) (k := 2) (.inr ⟨hrl, by rw [hvv]; exact hg⟩); have hq0 : (dfR x 2).length = 0 -> (dfR x 2).foldl a0r [] = [] := (fun e => by rw [A5u e]; rfl); have tW := b1b (k := (dfR x 2).length) (l := (dfR x 2).foldl a0r []) v hq0 (b3u x (by omega : 2 <= 3)); rw [hvv] at hf2; rw [<- hf2] at tW; clear hf2 hq0; rotate_left; have hdk : dfR x 3 = dfR x 2 := d3n (x := x) (k := 2) z3b; rotate_left; have hdk : dfR x 3 = dfR x 2 := d3n (x := x) (k := 2) z3c; rotate_left)
   | (refine ye ?_; refine a0b (⟨1, by omega⟩) yg6 yf)
   | (refine ye ?_; refine a0b (⟨2, by omega⟩) yg6 yf)
   | (refine ye ?_; refine a0b (⟨3, by omega⟩) yg6 yf)
   | ((with_reducible refine a1v tW z2w ?_))
   | ((with_reducible refine hpc tW z2w ?_))
   | refine yo ?_
   | (refine stpK ?_; intro K hK)
   | (refine stpC ?_; intro T E hT hE)
   | (refine stp2 ?_ ?_ <;> intro h)
   | refine cpG tR ?_
   | (refine yg ?_; clear hK K)
   | (refine yh ?_; clear hT hE T E)
   | simp [*, -List.all_flatten, -List.all_eq_true, yl, asR, a0q, FV.cellV, a0j, a0g, d1b, a1z, Ins.row, d7o, e0u, d2u]
  all_goals first
   | (exfalso; omega)
   | exact e4u hp3
end Go.Je
