/- Part. -/
import Derived.Test.YtfhhgjbcenhdeaaGreatDoorS31
set_option linter.all false
set_option maxRecDepth 100000
set_option maxHeartbeats 0
namespace Go.Je
open Go Go.FM Go.Gv Go.Proofs
variable {B : Heap} {L : LF} {N f i j k : Nat} {Y : Pts} {c : List Ins} {nm : ByteArray} {p : Pg} {pa rg u : Int}
theorem g6h (hp : VOk p) {g : Bool} {t : SL} {lf : FM.Loc} {ks : List Int} (hy : Shp p Y) (ht : t.ok Y) (hB : BsM p 1 B) (hks : okA (a0a p).length ks) (hl : HP [] B (MF p Y g) lf = some (mapO ks)) : FCr Tp Gl 106 [.mp t.loc, .mp lf, .ptr [88] 1 0 0] (HP [] B (MF p Y g)) (OutT p false B (inS t ks) Y g) := by
 have hsv := a0h hp
 have fB : ∀ r, B (1 :: r) = none := fun r => (hB Y g Y g hy hy).fb 1 r yb
 have hkl : ks.length <= 1000000000 := by have := b1j hks; omega
 have hkb : ∀ x ∈ ks, 0 <= x /\ x < 1000000000 := fun x hx => by have := hks.2 x hx; omega
 have hlf : ∀ (L : LF) (b' : Bool), hdN 1 (L.map Prod.fst) = true -> HP L B (MF p Y b') lf = some (mapO ks) := fun L b' hL => g5o hB yb hy hl hL
 have hput : ∀ (Z : Pts) (h : Bool) (o : Int), t.ok Z -> o ∉ getS Z t -> b0z Tp (HP [] B (MF p Z h)) 141 (.mp t.loc) (.int .i64 o) (.agg []) = some ([(t.loc, mapO (getS Z t ++ [o]))], .undef) := fun Z h o hZ ho => f3z (a4t hZ) ho
 have hi1 : ∀ (L : LF) (Z : Pts) (b' : Bool), t.ok Z -> inH (HP L B (MF p Z b')) t.loc := fun L Z b' hZ => d0d hZ
 have hi2 : ∀ (L : LF) (Z : Pts) (b' : Bool), inH (HP L B (MF p Z b')) [88] := fun L Z b' => a5m
 refine zd Tryz.f106 [] 7 23 [11, 10, 9] 1 ?_
 repeat' first
  | ((with_reducible refine a9y (id := 0) fun K hK => ?_); refine a7k 2 ?_)
  | (refine yi ?_; refine a0e (σ := {x : Nat × (Pts × Bool) // x.1 <= ss.length /\ Shp p x.2.1 /\ TR false (inS t (ss.take x.1)) (inS t (ss.take x.1)) Y g x.2.1 x.2.2}) (fun y => [(1, .undef), (6, .undef)]) [10, 9] (fun y => [(11, .int .i64 (y.1.1 : Int))]) [[1, 95]] (fun y => []) (fun y => MF p y.1.2.1 y.1.2.2) (fun y => ss.length - y.1.1) ⟨(0, (Y, g)), A2a _, hy, TR.id (g8c _ _ _)⟩ (gk3i (j := 1) [] (hB _ _ _ _ hy hy) yj yj yj yj yj yj yj) ?_; rintro ⟨⟨i, ⟨Z, h⟩⟩, hi, hZ, hT⟩; simp only [lpS, LPXB]; (try dsimp only at hi hZ hT); have htZ := hT.pre.ok ht; rcases cl2 hi ya with ⟨hlt, wi⟩ | ⟨hlt, rfl⟩; by_cases hin : (ss[i]'hlt) ∈ getS Z t; rotate_left; have hZ2 := hZ.set htZ (f4l hlt hpm hks (hZ.gets t) hin); have htZ2 := f9y (t := t) (getS Z t ++ [ss[i]'hlt]) htZ; rotate_right)
  | (refine ye ?_; refine a0b (⟨(i + 1, (Z, h)), by omega, hZ, g6e hlt hT hin⟩) (gk3i (j := 1) [] (hB _ _ _ _ hy hZ) yj yj yj yj yj yj yj) yf)
  | (refine ye ?_; refine a0b (⟨(i + 1, (setS Z t (getS Z t ++ [ss[i]'hlt]), true)), by omega, hZ2, f9f hlt htZ hT⟩) (gk3i (j := 1) [] (hB _ _ _ _ hy hZ2) yj yj yj yj yj yj yj) yf)
  | ((with_reducible refine cgH ?_); refine a3h (d4y (nm := [1, 95]) (by first | simp [a7j, a8r, a4l, fB] <;> fail | fail)) ?_)
  | (refine zj ?_; refine d7t yc (fun d hd => ?_) (d5d (l := [1, 95]) (k := lf) (ks := ks) (T := 141) ?_ ?_ hks.1 hkb hkl) ?_; (focus (cases hd; exact A5l rfl)); (focus (simp [a7j, a8r, a3g]; done)); (focus (exact hlf _ _ yn)); (rintro r' H' ⟨rfl, ss, hpm, rfl⟩); have hsl : ss.length <= 1000000000 := (by rw [hpm.length_eq]; exact hkl))
  | ((with_reducible refine cgH ?_); refine a3d rfl (d4o _ hB yb hZ htZ yn y90) ?_)
  | (refine zf ?_; refine a4y (j := 1) (hB _ _ _ _ hy hZ) rfl ⟨rfl, Z, h, rfl, hZ, hT.congr (g8b hpm)⟩ trivial)
  | with_reducible first | refine f8t ?_ | refine b3z ?_ | refine z1k ?_ | refine stpK ?_; intro K hK | refine stpC ?_; intro T E hT hE | refine stp2 ?_ ?_ <;> intro h | refine yg ?_; clear hK K | refine yh ?_; clear hT hE T E
  | simp [*, -List.all_flatten, -List.all_eq_true, DEFM, fB, yu, hdN, ze, a8u, a0o, b6y, a0j, e8q, g5n, f8k, hput, c7g, MG_t, MG_f]
theorem g3t (hp : VOk p) : CT p false 106 := fun B y b t lf ks hy ht hB hk hl => g6h hp hy ht hB hk hl
theorem g6o (hp : VOk p) (hy : Shp p Y) (hBM : BsM p 5 B) (hBN : BsN p 5 B) (h88 : B [88] = none) : FCr Tp Gl 105 [.ptr [81] 8 0 0] (HP [] B (MN p Y)) (OutA p B Y) := by
 have hsv := a0h hp
 have fB : ∀ r, B (5 :: r) = none := fun r => (hBN _ _ hy hy).fb 5 r yb
 have h81 : ∀ (L : LF) (Z : Pts) (b' : Bool), inH (HP L B (MF p Z b')) [81] := fun L Z b' => a1g a4j
 have h81n : ∀ (L : LF) (Z : Pts), inH (HP L B (MN p Z)) [81] := fun L Z => a1g e2q
 have h88i : ∀ (L : LF) (Z : Pts) (b' : Bool), inH (HP L B (MF p Z b')) [88] := fun L Z b' => a5m
 refine zd Tryz.f105 [.tmp 2] 4 8 [] 5 ?_
 repeat' first
  | ((with_reducible refine a9y (id := 2) fun K hK => ?_); refine f8u (gk5i (vs1 := [.ptr [81] 8 0 0, .undef, .bool false, .ptr [88] 1 0 0]) (tm1 := []) (ix1 := []) (L1 := [([88], .cells 4 1 [[.bool false]])]) [([88], some [5, 3])] h0p yn (by intro n hn; simp at hn; (try dsimp only); rcases hn with rfl | rfl <;> simp [a0s, b3a, g5d, fB, h88]) (by intro q hq; simp at hq; rcases hq with rfl; simp [a0s, b3a, fB] <;> fail) (hBN _ _ hy hy).clo (hBN _ _ hy hy).lent z4e z4a z4e) ?_; refine a7k 2 ?_)
  | (refine zj ?_; refine a1c (L := []) yc (fun d hd => ?_) rfl (c2v hp (g3t hp) yc hy (hBM.call (b := false) 4 yb hy yn trivial)) ?_; (focus (cases hd; exact A5l rfl)); (rintro r' H' ⟨rfl, Z2, g2, rfl, hZ2, hT⟩))
  | (refine zf ?_; exact ⟨HP [] B (MN p Z2), ⟨Z2, g2, rfl, rfl, hZ2, hT⟩, f5q h88, (hBN _ _ hy hZ2).lent, trivial, (hBN _ _ hy hZ2).clo⟩)
  | with_reducible first | refine a2w ?_ | refine a4r ?_ | refine z1k ?_ | refine stpK ?_; intro K hK | refine stpC ?_; intro T E hT hE | refine stp2 ?_ ?_ <;> intro h | refine yg ?_; clear hK K | refine yh ?_; clear hT hE T E
  | simp [*, -List.all_flatten, -List.all_eq_true, DEFM, fB, yu, hdN, ze, a8u, b3a, a0q, a8u, h81, h88i, e8q, c7g, MG_t, MG_f]
theorem an1M (hp : VOk p) (hj : 5 < j) (hy : Shp p Y) (hBM : BsM p j B) (hBN : BsN p j B) (h88 : B [88] = none) (h88L : ∀ q ∈ L, q.1 ≠ [88]) (hL : hdN j (L.map Prod.fst) = true) (hn : ninL (inH (HP L B (MN p Y))) L) (hn' : ninL (inH (HP L B (MF p Y false))) L) :
 FCr Tp Gl 105 [.ptr [81] 8 0 0] (HP [] (updL L B) (MN p Y)) (OutA p (updL L B) Y) := g6o hp hy (hBM.call 5 hj hy hL hn') (hBN.call 5 hj hy hL hn) (by rw [a3i h88L]; exact h88)
theorem f2b (hp : VOk p) (hc : Crd p Y) (hBM : BsM p 6 B) (hBN : BsN p 6 B) (h88 : B [88] = none) : FCr Tp Gl 104 [.ptr [81] 8 0 0, .clo 105 [] []] (HP [] B (MN p Y)) (OutU p B) := by
 have hy := hc.shp
 have fB : ∀ r, B (6 :: r) = none := fun r => (hBN _ _ hy hy).fb 6 r yb
 have h81 : ∀ (L : LF) (Z : Pts), inH (HP L B (MN p Z)) [81] := fun L Z => a1g e2q
 refine zd Tryz.f104 [] 4 7 [] 6 ?_
 repeat' first
  | ((with_reducible refine a9y (id := 0) fun K hK => ?_); refine a7k 2 ?_)
  | (refine yi ?_; refine a0e (σ := {x : Pts // Crd p x}) (fun y => []) [] (fun y => []) [] (fun y => []) (fun y => MN p y.1) (fun y => muR p y.1) ⟨Y, hc⟩ (gk3i (j := 6) [] (hBN _ _ hy hy) yj yj yj yj yj yj yj) ?_; rintro ⟨Z, hZc⟩; simp only [lpS, LPXB]; (try dsimp only at hZc); have hZ := hZc.shp)
  | (refine zj ?_; refine a1c (L := []) yc (fun d hd => ?_) rfl (an1M hp yb hZ hBM hBN h88 (fun _ h => by cases h) yn trivial trivial) ?_; (focus (cases hd; exact A5l rfl)); (rintro r' H' ⟨Z2, g2, rfl, rfl, hZ2, hT⟩); cases g2)
  | (refine ye ?_; refine a0b (⟨Z2, hZc.step hZ2 hT⟩) (gk3i (j := 6) [] (hBN _ _ hy hZ2) yj yj yj yj yj yj yj) (by dsimp only; exact Crd.mu hp hZ2 hT))
  | (refine zf ?_; refine a4y (j := 6) (hBN _ _ hy hZ2) rfl ⟨rfl, Z2, rfl, hZ2, ?_⟩ trivial; obtain ⟨he, hl⟩ := hZc.fin hp hT; rw [he]; exact hl)
  | with_reducible first | refine a2w ?_ | refine a4r ?_ | refine z1k ?_ | refine stpK ?_; intro K hK | refine stpC ?_; intro T E hT hE | refine stp2 ?_ ?_ <;> intro h | refine yg ?_; clear hK K | refine yh ?_; clear hT hE T E
  | simp [*, -List.all_flatten, -List.all_eq_true, DEFM, fB, yu, hdN, ze, a8u, b3a, a0q, a8u, h81, c7g, MG_t, MG_f]
open Classical in
noncomputable def lfpP (p : Pg) : Pts := if h : a0m p = true /\ ∃ x, Least p x then h.2.choose else ⟨[], [], []⟩
theorem d8a {x : Pts} (hv : a0m p = true) (h : Least p x) : lfpP p = x := by
 have hh : a0m p = true /\ ∃ x, Least p x := ⟨hv, x, h⟩
 unfold lfpP
 rw [dif_pos hh]
 exact hh.2.choose_spec.unique h
theorem g2a (hv : a0m p = false) : lfpP p = ⟨[], [], []⟩ := by
 unfold lfpP
 rw [dif_neg fun h => by rw [hv] at h; cases h.1]
theorem crd0 (hp : VOk p) : Crd p (a2p p) := ⟨(a4e hp).shp, fun z _ e => ⟨e, fun t o ho => by
 have h := (Gv.Ld.zero hp (a2p p)).at' t
 rw [h] at ho
 cases t <;> simp [ldd] at ho⟩⟩
theorem f9e (hp : VOk p) (hL : hdN 7 (L.map Prod.fst) = true) (hn : ninL (inH (HP L noH (MN p (a2p p)))) L) (hn' : ninL (inH (HP L noH (MF p (a2p p) false))) L) :
 FCr Tp Gl 104 [.ptr [81] 8 0 0, .clo 105 [] []] (HP [] (updL L noH) (MN p (a2p p))) (OutU p (updL L noH)) := by
 refine f2b hp (crd0 hp) ((bsM0 p 7 yb).call (b := false) 6 yb (a4e hp).shp hL hn') ((bsN0 p 7 yb).call 6 yb (a4e hp).shp hL hn) ?_
 rw [a3i fun q hq e => ?_]
 . rfl
 . obtain ⟨r, hr⟩ := a4z hL q.1 (List.mem_map_of_mem hq)
   rw [e] at hr; simp at hr
theorem h0r {y : Pts} (h : f < y.regs.length) (h' : i < y.regs[f].length) : HP L B (MN p y) [85, f, i] = some (mapO y.regs[f][i]) := by
 have := f1i (L := L) (B := B) (p := p) (y := y) (t := .r f i) (f9v h h')
 rw [show getS y (.r f i) = y.regs[f][i] from e4l h h'] at this
 exact this
theorem h0q {y : Pts} {o : Nat} (h : o < y.cells.length) : HP L B (MN p y) [86, o] = some (mapO y.cells[o]) := by
 have := f1i (L := L) (B := B) (p := p) (y := y) (t := .c o) h
 rw [show getS y (.c o) = y.cells[o] from f6u h] at this
 exact this
theorem c9t (R : List (List Int)) (h : i < R.length) : lays ((R.map Gv.srt).take (i + 1)) = lays ((R.map Gv.srt).take i) ++ [[.list 1 (ints (Gv.srt R[i]))]] := by
 have := b6w (R.map Gv.srt) (i := i) zl
 simpa using this
theorem f5e (R : List (List (List Int))) (h : i < R.length) : lls ((R.map (·.map Gv.srt)).take (i + 1)) = lls ((R.map (·.map Gv.srt)).take i) ++ [[.list 1 (lays (R[i].map Gv.srt))]] := by
 rw [c2s (R := R.map (·.map Gv.srt)) (i := i) zl, b9f]
 simp [d7x, a6r]
theorem d2i (hb : PgB p) (hv : a0m p = false) : Pq 58 [PA p] (.agg [.nils, .nils, .nils]) := by
 have hval : Pq 39 [PA p] (.bool (a0m p)) := by rw [<- b4z]; exact c19 p hb.f hb.g hb.l hb.ll hb.c
 refine yq Tryz.f58 [.cell 2 49] 12 73 [30, 29, 28, 36, 35, 34, 59, 58, 57] 7 ?_
 repeat' first
  | refine z1k ?_
  | (refine stpK ?_; intro K hK)
  | (refine stpC ?_; intro T E hT hE)
  | (refine stp2 ?_ ?_ <;> intro h)
  | refine cpG hval ?_
  | (refine yg ?_; clear hK K)
  | (refine yh ?_; clear hT hE T E)
  | simp [*, -List.all_flatten, -List.all_eq_true, DEFM, asR, a0q]
 exact ⟨_, _, ⟨rfl, rfl⟩, .inl rfl, _, _, rfl, .inl rfl, _, rfl, .inl rfl⟩
theorem d2h (hb : PgB p) (hv : a0m p = true) : Pq 58 [PA p] (.agg [.list 2 (sits (lfpP p).sites), .list 1 (lls (lfpP p).regs), .list 1 (lays (lfpP p).cells)]) := by
 have hval : Pq 39 [PA p] (.bool (a0m p)) := by rw [<- b4z]; exact c19 p hb.f hb.g hb.l hb.ll hb.c
 have hp := vOk hv
 have hsv := a0h hp
 have hnf := hp.nf
 have hE := (a4e hp).shp
 have h81 : ∀ (L : LF) (Y : Pts), inH (HP L noH (MN p Y)) [81] := fun L Y => a1g e2q
 have h83 : ∀ (L : LF) (Y : Pts) (f : Nat), f < Y.regs.length -> inH (HP L noH (MN p Y)) [83, f] := fun L Y f h => a1g (g5l h)
 have h84 : ∀ (L : LF) (Y : Pts), inH (HP L noH (MN p Y)) [84] := fun L Y => a1g g5k
 have h82 : ∀ (L : LF) (Y : Pts), inH (HP L noH (MN p Y)) [82] := fun L Y => a1g g5m
 refine yq Tryz.f58 [.cell 2 49] 12 73 [30, 29, 28, 36, 35, 34, 59, 58, 57] 7 ?_
 repeat' first
  | ((with_reducible refine cgH ?_); refine a3d rfl (f2c hp (BsS.of yn y99)) ?_)
  | ((with_reducible refine a9y (id := 4) fun K hK => ?_); refine a7k 1 ?_)
  | (refine yi ?_; refine a0e (σ := {f : Nat // f <= p.fu.length}) (fun y => [(6, .undef), (7, .undef), (9, .undef)]) [29, 28] (fun y => [(30, .int .i64 (y.1 : Int))]) [[7, 1001], [7, 95]] (fun y => [([7, 4], .cells 49 3 [[.list 2 (sits (a0a p)), .sl [7, 1000] 1 0 y.1, .nils]]), ([7, 1000], .cells 24 1 (lls ((Z.regs.map (·.map Gv.srt)).take y.1)))]) (fun y => MN p Z) (fun y => p.fu.length - y.1) ⟨0, by simp⟩ (gk3i (j := 7) [([7, 1000], none)] (bsMN hZ 7 yb) yj yj yj yj yj yj yj) ?_; rintro ⟨f, hf⟩; simp only [lpS, LPXB]; (try dsimp only at hf); rcases a0c hf with hlt | ⟨hlt, he⟩; rotate_left; subst f; have hfa : (Z.regs.map (·.map Gv.srt)).take p.fu.length = (Z.regs.map (·.map Gv.srt)) := A6a z3q; rotate_left; have wf := wli hlt ya; have hfY : f < Z.regs.length := ya; have hR1 : f < (rowR Z.regs).length := (by simpa [a3b] using hfY); have hYl := hZ.fn f hfY hlt; have hrr := hp.regs (A5p hlt); have hn64 : (Z.regs[f]'hfY).length <= 64 := (by have := hrr.r64; omega); have hs := szn (n := f + 1) (k := 24) ya yb; have hs2 : f + 1 <= 4611686018427387904 := ya; have hs3 : f <= 4611686018427387903 := ya; have hfm : min f Z.regs.length = f := ya; have els := f5e Z.regs hfY; generalize hnr : (Z.regs[f]'hfY).length = nr at hn64; clear hYl)
  | (refine yi ?_; refine a0e (σ := {r : Nat // r <= nr}) (fun y => [(7, .sl [7, 1001] 1 0 y.1), (9, .undef)]) [35, 34, 30, 29, 28] (fun y => [(36, .int .i64 (y.1 : Int))]) [[7, 95]] (fun y => [([7, 1001], .cells 36 1 (lays (((Z.regs[f]'hfY).map Gv.srt).take y.1)))]) (fun y => MN p Z) (fun y => nr - y.1) ⟨0, by simp⟩ (gk3i (j := 7) [([7, 1001], none)] (bsMN hZ 7 yb) yj yj yj yj yj yj yj) ?_; rintro ⟨r, hr⟩; simp only [lpS, LPXB]; (try dsimp only at hr); rcases a0c hr with hlr | ⟨hlr, he⟩; rotate_left; subst r; have hfull : (((Z.regs[f]'hfY).map Gv.srt)).take nr = ((Z.regs[f]'hfY).map Gv.srt) := A6a z3q; rotate_left; have wr := wli hlr ya; have hrZ : r < (Z.regs[f]'hfY).length := ya; have hM2 : r < (rowM f (Z.regs[f]'hfY)).length := (by simpa [a4b] using hrZ); have hok := hZ.rs f hfY _ (A5p hrZ); have hsl : (Gv.srt ((Z.regs[f]'hfY)[r]'hrZ)).length <= 64001 := (by rw [Gv.a5y]; have := b1j hok; omega); have hs := szn (n := r + 1) (k := 24) ya yb; have hs2 : r + 1 <= 4611686018427387904 := ya; have hs3 : r <= 4611686018427387903 := ya; have hrm : min r (Z.regs[f]'hfY).length = r := ya; have ely := c9t (Z.regs[f]'hfY) hrZ)
  | ((with_reducible refine cgH ?_); refine a3h (d4y (nm := [7, 95]) z4f) ?_)
  | ((with_reducible refine cgH ?_); refine a3h (c8a (l := [7, 95]) (k := [85, f, r]) (T := 141) z4f (h0r hfY hrZ) hok.1 (fun x hx => by have := hok.2 x hx; omega) (by have := b1j hok; omega)) ?_)
  | (refine ye ?_; refine a0b (⟨r + 1, by omega⟩) (gk3i (j := 7) [] (bsMN hZ 7 yb) yj yj yj yj yj yj yj) yf)
  | (refine ye ?_; refine a0b ⟨f + 1, by omega⟩ (Gk.trans (gk3i (j := 7) [([7, 1000], some [7, 51])] (bsMN hZ 7 yb) yj yj yj yj yj yj yj) (d9i (j := 7) [7, 1001] 36 1 (lays ((Z.regs[f]'hfY).map Gv.srt)) (bsMN hZ 7 yb) (fun _ h => h.elim) yn (by simp [*, SIMB, yu, hdN, z2r, anR, z2m, A0j, A1l, A0w, a0w, asR, a0v, a6r, a2x, b0k, A1c, A2d, A0c, a2f, a1i, a6j]) (by simp [*, SIMB, yu, hdN, z2r, anR, z2m, A0j, A1l, A0w, a0w, asR, a0v, a6r, a2x, b0k, A1c, A2d, A0c, a2f, a1i, a6j]))) yf)
  | (refine yi ?_; refine a0e (σ := {i : Nat // i <= (a0a p).length}) (fun y => [(11, .undef)]) [58, 57] (fun y => [(59, .int .i64 (y.1 : Int))]) [] (fun y => [([7, 4], .cells 49 3 [[.list 2 (sits (a0a p)), .sl [7, 1000] 1 0 p.fu.length, .sl [7, 1002] 1 0 y.1]]), ([7, 1002], .cells 36 1 (lays ((Z.cells.map Gv.srt).take y.1)))]) (fun y => MN p Z) (fun y => (a0a p).length - y.1) ⟨0, by simp⟩ (gk3i (j := 7) [([7, 1002], none)] (bsMN hZ 7 yb) yj yj yj yj yj yj yj) ?_; rintro ⟨i, hi⟩; simp only [lpS, LPXB]; (try dsimp only at hi); rcases a0c hi with hli | ⟨hli, he⟩; rotate_left; subst i; have hca : (Z.cells.map Gv.srt).take (a0a p).length = (Z.cells.map Gv.srt) := A6a z3q; rotate_left; have wi := wli hli ya; have hiZ : i < Z.cells.length := ya; have hC2 : i < (rowC Z.cells).length := (by simpa [a4c] using hiZ); have hok := hZ.cs _ (A5p hiZ); have hsl : (Gv.srt (Z.cells[i]'hiZ)).length <= 64001 := (by rw [Gv.a5y]; have := b1j hok; omega); have hs := szn (n := i + 1) (k := 24) ya yb; have hs2 : i + 1 <= 4611686018427387904 := ya; have hs3 : i <= 4611686018427387903 := ya; have him : min i Z.cells.length = i := ya; have ely := c9t Z.cells hiZ)
  | (with_reducible refine b9t (id := 20) [[7, 1002]] 8 a0d yc fun K hK => ?_)
  | (refine b8i (j := 5) (e := 36) (x := .tmp 64) (y := .tmp 68) (t := 24) (tx := 24) (Aj := upd noH [7, 68] (.cells 36 1 [[.list 1 (ints (Gv.srt (Z.cells[i]'hiZ)))]])) [7, 1002] [7, 68] (.cells 36 1 (lays ((Z.cells.map Gv.srt).take i))) (.cells 36 1 [[.list 1 (ints (Gv.srt (Z.cells[i]'hiZ)))]]) 1 (lays ((Z.cells.map Gv.srt).take i) ++ [[.list 1 (ints (Gv.srt (Z.cells[i]'hiZ)))]]) (.sl [7, 69] 1 0 (i + 1)) yb yc ?_ z1f rfl (A5l rfl) ?_ yc ?_ ?_ ?_ yb ?_ ?_ ?_ ?_; (focus (exact rfl)); (focus (first | rfl | simp)); (iterate 5 (focus (first | rfl | simp [*, SIMB, rmvs, rmv, a2r]))); (focus (simp [*, -List.all_flatten, -List.all_eq_true, DEFM, yu, hdN, z2r, anR, z2m, A0j, A1l, A0w, a0w, asR, a0v, a6r, a2x, b0k, A1c, A2d, A0c, a2f, a1i, a6j, rmvs, rmv, a2r, FV.cellV])))
  | ((with_reducible refine f7w (k := 4) 3 [7, 95] (.cells 141 1 [[.mp [86, i]]]) yb yc ?_ yc ?_ ?_); (focus rfl); (focus (simp; done)))
  | ((with_reducible refine hclH ?_); refine hfc0 (fun H2 hs => c8a (l := [7, 95]) (k := [86, i]) (T := 141) (hs _ _ (by first | simp [upd] <;> fail | fail)) (hs _ _ (by first | simp [upd, rmvs, rmv, h0q hiZ] <;> fail | fail)) hok.1 (fun x hx => by have := hok.2 x hx; omega) (by have := b1j hok; omega)) ?_)
  | ((with_reducible refine hclH ?_); refine hfc1 [7, 95] (.cells 141 1 [[.mp [86, i]]]) (fun H2 _ h0 => d4y h0) ?_)
  | (refine ye ?_; refine a0b (⟨i + 1, by omega⟩) (gk3i (j := 7) [([7, 1002], some [7, 69])] (bsMN hZ 7 yb) yj yj yj yj yj yj yj) yf)
  | (refine zj ?_; refine a1c yc (fun d hd => ?_) rfl (f9e hp ?_ ?_ ?_) ?_; (focus (cases hd; exact A5l rfl)); (focus rfl); (iterate 2 (focus (first | rfl | (simp [ninL, ninO, a1h, nins, nin, zk, mapO, z15, hdN, *]; done)))); (rintro r' H' ⟨rfl, Z, rfl, hZ, hLs⟩); have hlf := d8a hv hLs; have hZr := hZ.rn; have hZc := hZ.cn; have hS1 : (a6q Z).sites = a0a p := hZ.sites; have hS2 : (a6q Z).regs = (Z.regs.map (·.map Gv.srt)) := rfl; have hS3 : (a6q Z).cells = Z.cells.map Gv.srt := rfl)
  | with_reducible first | refine a2w ?_ | refine a4r ?_ | refine z1k ?_ | refine stpK ?_; intro K hK | refine stpC ?_; intro T E hT hE | refine stp2 ?_ ?_ <;> intro h | refine cpG hval ?_ | refine yg ?_; clear hK K | refine yh ?_; clear hT hE T E
  | simp [*, -List.all_flatten, -List.all_eq_true, DEFM, yu, hdN, z2r, anR, z2m, A0j, A1l, A0w, a0w, asR, a0v, a6r, a2x, b0k, A1c, A2d, A0c, a2f, a1i, a6j, rmvs, rmv, a2r, FV.cellV]
theorem e2f {P : Program} {Gq : List (Nat × List Value)} {f : FuncId} {A : List FV} {r y : FV} {H' : Heap} {n : Nat} (h : FC P Gq f A noH r H') (hz : frz H' n r = some y) : PC P Gq f A y := by
 intro w F m vs hF hG hv hH
 refine (h w F m vs hF hG hv hH).mono ?_
 rintro e w' ⟨v, F', m', rfl, k1, k2, k3, k4, k5, k6, k7, k8, k9, k10, k11⟩
 obtain ⟨g1, _⟩ := (c4e (m' := m') k5 n).1 _ _ _ hz k4
 refine ⟨v, frzF F' H' m', m', rfl, fun y hy => .inl (k1 y hy), fun y hy => ?_, fun l hl => absurd rfl hl, g1.keep (fun _ h => h) (fun _ _ => rfl) (fun _ h => h.elim) (fun _ _ => rfl), a6f _ _ _, fun l ⟨_, h, _⟩ => zr, k7, fun y hy hn => k8 y hy hn, k9, k10, k11⟩
 rcases hy with hy | ⟨l, hl, rfl⟩
 . exact k2 y hy
 . refine ⟨?_, (k5.old l hl).1⟩
   rcases k6 l hl with ⟨_, ⟨_, h, _⟩, _⟩ | h
   . cases h
   . exact .inr h
def d9g (p : Pg) : Bool := decide (150 < grN p p.fu.length)
theorem f2i (p : Pg) (hf : p.fu.length <= 2000000) (hfc : ∀ x ∈ p.fu, x.code.length <= 2000000) : Pq 12 [PA p] (.bool (d9g p)) := by
 have hg0 : IntKind.wrap .i64 ((p.gl.length : Int) + (p.la.length : Int)) = grN p 0 := rfl
 refine yq Tryz.f12 [.tmp 2] 5 40 [] 0 ?_
 repeat' first
  | (refine yi ?_; refine a0e (σ := {i : Nat // i <= p.fu.length}) (fun y => [(3, .int .i64 (grN p y.1)), (4, .int .i64 (y.1 : Int))]) [] (fun y => []) [] (fun y => []) (fun y => noH) (fun y => p.fu.length - y.1) ⟨0, by simp⟩ yt ?_; rintro ⟨i, hi⟩; simp only [lpS, LPXB]; (try dsimp only at hi); rcases a0c hi with hlt | ⟨hlt, rfl⟩; have wi := wli hlt (A0a hf yb); have e := g8f hlt; have hfc' := hfc _ (A5p hlt); have hwl := wlen (p.fu[i]'hlt).code.length ya)
  | (refine ye ?_; refine a0b (⟨i + 1, by omega⟩) yt yf)
  | with_reducible first | refine a0n (id := 5) 19 a0d yc fun K hK => ?_ | refine z1k ?_ | refine stpK ?_; intro K hK | refine stpC ?_; intro T E hT hE | refine stp2 ?_ ?_ <;> intro h | refine yg ?_; clear hK K | refine yh ?_; clear hT hE T E
  | simp [*, -List.all_flatten, -List.all_eq_true, yl, d9g, g8s, asR]
theorem g3d (hp : VOk p) {x : Pts} (h : Gv.Form p x) (N : Nat) (hN : 64001 <= N) : PtB N x := by
 have hs := a0h hp
 refine ⟨by rw [h.sites]; omega, by rw [h.rn]; have := hp.nf; omega, by rw [h.cn]; omega, fun a ha => ?_, fun a ha s hs' => ?_, fun s hs' => ?_⟩
 . obtain ⟨i, hi, rfl⟩ := A0g ha
   have hi' : i < p.fu.length := by rw [<- h.rn]; exact hi
   have := h.fn i hi hi'
   have := (hp.regs (A5p hi')).r64
   omega
 . obtain ⟨i, hi, rfl⟩ := A0g ha
   have := b3n (h.rs i hi s hs').1 (h.rs i hi s hs').2
   omega
 . have := b3n (h.cs s hs').1 (h.cs s hs').2
   omega
theorem rnd0 (hp : VOk p) : Rnd p (a2p p) := ⟨a4e hp, (crd0 hp).least⟩
theorem d5e (hb : PgB p) : Pq 58 [PA p] (.agg [.list 2 (sits (lfpP p).sites), .list 1 (lls (lfpP p).regs), .list 1 (lays (lfpP p).cells)]) := by
 cases hv : a0m p with
 | true => exact d2h hb hv
 | false =>
   rw [g2a hv]
   exact (d2i hb hv).deep ⟨_, rfl, _, _, rfl, .inr ⟨2, rfl⟩, _, _, rfl, .inr ⟨1, rfl⟩, _, _, rfl, .inr ⟨1, rfl⟩, rfl⟩
theorem c5h (hb : PgB p) (hv : a0m p = true) : Pq 33 [PA p] (.agg [.list 2 (sits (lfpP p).sites), .list 1 (lls (lfpP p).regs), .list 1 (lays (lfpP p).cells)]) := by
 have hval : Pq 17 [PA p] (.bool (a0m p)) := c21 p hb.f hb.g hb.l hb.ll hb.c
 have hp := vOk hv
 refine yq Tryz.f33 [.cell 2 49] 5 19 [] 0 ?_
 repeat' first
  | (refine yi ?_; refine a0e (σ := {x : Pts // Rnd p x}) (fun y => [(4, .undef)]) [] (fun y => []) [[0, 4]] (fun y => [([0, 3], .cells 49 3 [[.list 2 (sits y.1.sites), .list 1 (lls y.1.regs), .list 1 (lays y.1.cells)]])]) (fun y => noH) (fun y => muR p y.1) ⟨a2p p, rnd0 hp⟩ yt ?_; rintro ⟨x, hR⟩; simp only [lpS, LPXB]; (try dsimp only at hR); have hF := hR.form; have hB1 := g3d hp hF 2000000 yb; have hps := f9j hp hF hB1; have hsm := f9p (y := a8w p x) hB1; by_cases e : x = a8w p x; have he := c3d e; have hlf := d8a hv (hR.fin hv e); clear e; rotate_left; have he := a6w e; rotate_left)
  | (refine ye ?_; refine a0b (⟨a8w p x, hR.next hp⟩) yt (by dsimp only; exact hR.mu hp e))
  | refine z1k ?_
  | (refine stpK ?_; intro K hK)
  | (refine stpC ?_; intro T E hT hE)
  | (refine stp2 ?_ ?_ <;> intro h)
  | refine cpG hval ?_
  | refine cpG (f2v hp) ?_
  | refine cpG hps ?_
  | refine cpG hsm ?_
  | (refine yg ?_; clear hK K)
  | (refine yh ?_; clear hT hE T E)
  | simp [*, -List.all_flatten, -List.all_eq_true, yl, asR]
theorem e5n (hv : a0m p = true) : ∃ x, Least p x := by
 have hp := vOk hv
 have key : ∀ n x, Rnd p x -> muR p x <= n -> ∃ y, Least p y := by
  intro n
  induction n with
  | zero =>
    intro x h hm
    by_cases e : x = a8w p x
    . exact ⟨x, h.fin hv e⟩
    . have := h.mu hp e; omega
  | succ n ih =>
    intro x h hm
    by_cases e : x = a8w p x
    . exact ⟨x, h.fin hv e⟩
    . exact ih _ (h.next hp) (by have := h.mu hp e; omega)
 exact key _ _ (rnd0 hp) (A5s _)
theorem c3w (hv : a0m p = true) : Least p (lfpP p) := by
 obtain ⟨x, hx⟩ := e5n hv
 rw [d8a hv hx]
 exact hx
theorem b9i (hv : a0m p = true) : p.gl.length <= 64 := by
 simp only [a0m, a4q, A5t, A5w] at hv
 exact hv.1.1.1.1.1.2
theorem fok (hv : a0m p = true) (hk : k < p.fu.length) (e : p.fu[k] = ⟨nm, pa, rg, c⟩) : FOk p k nm pa rg c := by
 have hp := vOk hv
 have hm : (⟨nm, pa, rg, c⟩ : FnD) ∈ p.fu := by rw [<- e]; exact A5p hk
 have := hp.nf
 exact ⟨hk, e, by omega, g3x hv hm, fun i hi => (hp.ins _ hm _ (A5p hi)).op⟩
theorem g3e (hv : a0m p = true) (h : FOk p k nm pa rg c) (i : Nat) : usC c i < 64 := by
 have hk := h.hf
 have hm : (⟨nm, pa, rg, c⟩ : FnD) ∈ p.fu := by rw [<- h.e]; exact A5p hk
 exact f9c (vOk hv) (b9i hv) hm i
theorem e9w (hv : a0m p = true) (h : FOk p k nm pa rg c) (hi : i < c.length) (hl : lkO c[i].op = true) : 0 <= c[i].a /\ c[i].a < rg := by
 have hk := h.hf
 have hm : (⟨nm, pa, rg, c⟩ : FnD) ∈ p.fu := by rw [<- h.e]; exact A5p hk
 have := ((vOk hv).ins _ hm _ (A5p hi)).a
 simp only [lkO, A2v, A5w] at hl
 rcases hl with e | e <;> rw [e] at this <;> simpa [opR, rR] using this
theorem rgaJ {X : Pts} {a : Int} (hk : k < X.regs.length) (h : a.toNat < X.regs[k].length) : Gv.rg X k a = X.regs[k][a.toNat] := by
 have e : X.regs.getD k [] = X.regs[k] := by rw [A5m, A5n hk]; rfl
 unfold Gv.rg
 rw [e, A5m, A5n h]; rfl
theorem g1z : lkO 40 = true := by decide
def ptrs (n : Nat) : List (List FV) := (List.range n).map fun f => [.ptr [95, f] 11 0 0]
theorem a8b (n : Nat) : (ptrs n).length = n := by simp [ptrs]
theorem d6z {n : Nat} (h : i < (ptrs n).length) : (ptrs n)[i] = [.ptr [95, i] 11 0 0] := by simp [ptrs]
theorem e9r (n : Nat) : ptrs n ++ [[.ptr [95, n] 11 0 0]] = ptrs (n + 1) := by simp [ptrs, A1p]
def ptsV (x : Pts) (b : Bool) : List FV := if b = true then [.list 2 (sits x.sites), .list 1 (lls x.regs), .list 1 (lays x.cells)] else [.nils, .nils, .nils]
theorem e9p (x : Pts) : ptsV x true = [.list 2 (sits x.sites), .list 1 (lls x.regs), .list 1 (lays x.cells)] := rfl
theorem e9q (x : Pts) : ptsV x false = [.nils, .nils, .nils] := rfl
theorem e5b (x : Pts) (b : Bool) : nls (ptsV x b) = true := by cases b <;> simp [ptsV, nls, nl, a1i, a5j, a1a]
structure BsD (p : Pg) (B : Heap) : Prop where
 toH : BsH 5 B
 l98 : B [6, 98] = some (.cells 65 1 (ptrs p.fu.length))
 st : ∀ f nm pa rg c, FOk p f nm pa rg c -> B [95, f] = some (.cells 72 11 [[.list 4 (fns p.fu), .list 2 (gbs p.gl), .list 1 (lays p.la), .int .i64 p.main, .int .i64 f, .str nm, .int .i64 pa, .int .i64 rg, .list 5 (inss c), .sl [96, f] 1 0 c.length, .sl [97, f] 1 0 c.length]]) /\ B [96, f] = some (.cells 3 1 (ints (usL c))) /\ B [97, f] = some (.cells 68 1 (u64s (hdG 64 c)))
structure BsW (B : Heap) : Prop where
 toH : BsH 7 B
 f71 : B [71] = none
 f72 : B [72] = none
 lv : ∀ l o, B l = some o -> o ≠ .dead
theorem BsW.live (h : BsW B) : ∀ l, inH (HP [] B noH) l -> ∃ o, ext B noH l = some o /\ o ≠ .dead := fun l hl => by
 cases e : B l with
 | none => exact absurd (by unfold HP; rw [a3r]; exact e) hl
 | some o => exact ⟨o, by rw [a3r]; exact e, h.lv l o e⟩
theorem BsW.c5 (h : BsW B) : Clo (ext B noH) := by rw [a3r]; exact h.toH.clo
theorem BsW.l5 (_ : BsW B) : ∀ l, inH (HP [] B noH) l -> ext B noH l ≠ none := fun _ h => h
theorem f6f (p : Pg) (h : i < p.fu.length) : fns (p.fu.take (i + 1)) = fns (p.fu.take i) ++ [[.str p.fu[i].name, .int .i64 p.fu[i].params, .int .i64 p.fu[i].regs, .list 5 (inss p.fu[i].code)]] := by
 rw [A0y, A5n h, b3r]; rfl
theorem e5p (p : Pg) (h : i < p.la.length) : lays (p.la.take (i + 1)) = lays (p.la.take i) ++ [[.list 1 (ints p.la[i])]] := by
 rw [A0y, A5n h, a1q]; rfl
theorem c3p (U : FM.Loc -> Prop) : ∀ x : List FnD, a1h U (fns x)
 | [] => trivial
 | f :: x => ⟨⟨trivial, trivial, trivial, a1p f.code, trivial⟩, c3p U x⟩
theorem insD (hv : a0m p = true) (hF : FOk p f nm pa rg c) (hi : i < c.length) : InsD c[i] := by
 have hk := hF.hf
 have hm : (⟨nm, pa, rg, c⟩ : FnD) ∈ p.fu := by rw [<- hF.e]; exact A5p hk
 have h := (vOk hv).ins _ hm _ (A5p hi)
 have key : ∀ r v, opR p ⟨nm, pa, rg, c⟩ c[i] r v = true -> r = 100 -> 0 <= v := fun r v h e => by
  subst e
  simp [opR] at h
  exact h.1
 exact ⟨h.op, key _ _ h.a, key _ _ h.b, key _ _ h.c⟩
theorem d5c (hv : a0m p = true) (hF : FOk p f nm pa rg c) (hi : i < c.length) : Pq 51 [PA p, .int .i64 f, .int .i64 i] (.list 1 (ints (dfL c[i]))) := by
 have hc := hF.hc.n1000
 have hf := hF.hf
 have e := hF.e
 have hi' : i < p.fu[f].code.length := by rw [e]; exact hi
 exact f2x hF.hf hi' hF.h1 (by rw [e]; show c.length <= 2000000; omega) (x := c[i]) z1e (insD hv hF hi)
theorem c7d {c : List Ins} (hc : CodeOk c) {j : Nat} : ∀ k (hk : k < (blks c).length) (h : j <= k), ((blks c)[j]'(Nat.lt_of_le_of_lt h hk)).1 <= (blks c)[k].1
 | 0, hk, h => by obtain rfl := A4l.1 h; exact A5s _
 | k + 1, hk, h => by
   by_cases e : j = k + 1
   . subst e; exact A5s _
   . have h1 := c7d hc k ya (by omega : j <= k)
     have h2 : (blks c)[k + 1].1 = (blks c)[k].2 := c7c hc hk
     have h3 := (a8v (c := c) (j := k) ya).1.lt
     omega
theorem g4j (hc : CodeOk c) (hi : i < c.length) (hj : j < (blks c).length) : (blks c)[j].1 <= i ↔ j <= nmF c i := by
 obtain ⟨h1, h2, h3⟩ := b8g hc hi
 constructor
 . intro h
   rcases A0r (nmF c i) j with h4 | h4
   . have h5 := c7d hc j hj (by omega : nmF c i + 1 <= j)
     have h6 : (blks c)[nmF c i + 1].1 = (blks c)[nmF c i].2 := c7c hc (by show nmF c i + 1 < (blks c).length; omega)
     omega
   . exact h4
 . intro h
   have := c7d hc _ h1 h
   omega
theorem c7o {m a : Nat} {r : Int} (hm : m < c.length) (ha : a <= m) (h : usB c r a (m + 1) = u) : (c[m].op = 51 /\ c[m].b = 0 /\ c[m].c = r /\ u = -1) \/ (¬ (c[m].op = 51 /\ c[m].b = 0 /\ c[m].c = r) /\ ((hasI (dfL c[m]) r = true /\ c[m].op = 18 /\ u = c[m].b) \/ (hasI (dfL c[m]) r = true /\ ¬ c[m].op = 18 /\ u = -1) \/ (hasI (dfL c[m]) r = false /\ usB c r a m = u))) := by
 replace h := h.symm
 rw [f9d hm ha] at h
 have hw : wrB c[m] r = ((decide (c[m].op = 51) && (decide (c[m].b = 0) && decide (c[m].c = r))) || hasI (dfL c[m]) r) := rfl
 by_cases hA : c[m].op = 51 /\ c[m].b = 0 /\ c[m].c = r
 . obtain ⟨h1, h2, h3⟩ := hA
   have h18 : ¬ c[m].op = 18 := by omega
   rw [hw, if_pos (by simp [h1, h2, h3]), if_neg h18] at h
   exact .inl ⟨h1, h2, h3, h⟩
 . refine .inr ⟨hA, ?_⟩
   have hA2 : (decide (c[m].op = 51) && (decide (c[m].b = 0) && decide (c[m].c = r))) = false := by
    simp only [<- Bool.decide_and, decide_eq_false_iff_not]; exact hA
   rw [hw, hA2, Bool.false_or] at h
   cases hh : hasI (dfL c[m]) r
   . rw [hh, if_neg yd] at h
     exact .inr (.inr ⟨rfl, h.symm⟩)
   . rw [hh, if_pos rfl] at h
     by_cases h18 : c[m].op = 18
     . rw [if_pos h18] at h; exact .inl ⟨rfl, h18, h⟩
     . rw [if_neg h18] at h; exact .inr (.inl ⟨rfl, h18, h⟩)
def frB (c : List Ins) (i : Nat) : Nat -> Nat
 | 0 => 0
 | j + 1 => if j <= nmF c i then stJ c j else frB c i j
theorem g8r (c : List Ins) (i : Nat) : frB c i 0 = 0 := rfl
theorem g3b (hc : CodeOk c) (hi : i < c.length) (hj : j < (blks c).length) (h : (blks c)[j].1 <= i) : frB c i (j + 1) = (blks c)[j].1 := by
 rw [frB, if_pos ((g4j hc hi hj).1 h), c2y hj]
theorem g3c (hc : CodeOk c) (hi : i < c.length) (hj : j < (blks c).length) (h : ¬ (blks c)[j].1 <= i) : frB c i (j + 1) = frB c i j := by
 rw [frB, if_neg fun h' => h ((g4j hc hi hj).2 h')]
theorem d9t (hc : CodeOk c) (hi : i < c.length) : frB c i (blks c).length = stF c i := by
 obtain ⟨h1, h2, h3⟩ := b8g hc hi
 have h4 := ((a8v h1).1.num i h2 h3).1
 have key : ∀ j, nmF c i < j -> frB c i j = stJ c (nmF c i) := by
  intro j
  induction j with
  | zero => intro h; omega
  | succ j ih =>
    intro h
    rw [frB]
    by_cases e : j = nmF c i
    . rw [if_pos ya, e]
    . rw [if_neg ya, ih ya]
 rw [key _ h1, c2y h1, h4]
theorem f0z {B : List (Nat × Nat)} (h : i < (bxW c B).length) : (bxW c B)[i] = bRow (B[i]'(by rwa [a6k] at h)) (nxV (nxB c (B[i]'(by rwa [a6k] at h)))) := by simp [bxW]
theorem f2y (hb : PgB p) (hB : BsW B) : FC Tp Gl 15 [PA p] (HP [] B noH) (.agg [.sl [71] 4 0 p.fu.length, .list 2 (gbs p.gl), .sl [72] 1 0 p.la.length, .int .i64 p.main]) (HP [([71], .cells 35 4 (fns p.fu)), ([72], .cells 36 1 (lays p.la))] B noH) := by
 have fB : ∀ r, B (7 :: r) = none := fun r => hB.toH.fr 7 r (A5s _)
 have f71 := hB.f71
 have f72 := hB.f72
 have hq1 := szn (n := p.gl.length) (k := 24) (by have := hb.g; omega) yb
 have hq2 : p.gl.length <= 4611686018427387904 := by have := hb.g; omega
 refine yv Tryz.f15 [.cell 2 26] 7 57 [] 7 ?_
 repeat' first
  | ((with_reducible refine g2d hB.toH ?_ ?_ ?_ ?_); (focus (simp [fB, f71, f72]; done)); (focus (simp [HPXB]; done)); (focus (simp [nin, nins, a0p, inH, HPXB, a3j]; done)); (focus (simp [ninL, ninO, a1h, nins, nin, z1o, a0g, a1p, c3p, b3i, inH, HPXB, *]; done)))
  | (refine yi ?_; refine a0e (σ := {i : Nat // i <= p.fu.length}) (fun y => [(4, .int .i64 (y.1 : Int)), (5, .undef), (6, .undef)]) [] (fun y => []) [[7, 10]] (fun y => [([7, 3], .cells 26 4 [[.sl [71] 4 0 y.1, .list 2 (gbs p.gl), .nils, .int .i64 p.main]]), ([71], .cells 35 4 (fns (p.fu.take y.1)))]) (fun y => noH) (fun y => p.fu.length - y.1) ⟨0, by simp⟩ (Gk.trans (gk5S [([71], none)] rfl hB.c5 hB.l5 zb zb yy zb zb zb) (b9j [7, 10] 79 2 (gbs p.gl) hB.c5 hB.live z3s z3t z36)) ?_; rintro ⟨i, hi⟩; simp only [lpS, LPXB]; (try dsimp only at hi); rcases cl2 hi (by have := hb.f; omega) with ⟨hlt, wi⟩ | ⟨hlt, rfl⟩; have hcc := hb.c _ (A5p hlt); have hz := szn (n := i + 1) (k := 56) (by have := hb.f; omega) yb; have hz2 : i <= 4611686018427387903 := (by have := hb.f; omega); have hy3 := szn (n := (p.fu[i]'hlt).code.length) (k := 40) ya yb; have hy4 : (p.fu[i]'hlt).code.length <= 4611686018427387904 := ya)
  | (refine yi ?_; refine a0e (σ := {i : Nat // i <= p.la.length}) (fun y => [(4, .undef), (6, .int .i64 (y.1 : Int))]) [] (fun y => []) [] (fun y => [([7, 3], .cells 26 4 [[.sl [71] 4 0 p.fu.length, .list 2 (gbs p.gl), .sl [72] 1 0 y.1, .int .i64 p.main]]), ([72], .cells 36 1 (lays (p.la.take y.1)))]) (fun y => noH) (fun y => p.la.length - y.1) ⟨0, by simp⟩ (gk5S [([72], none)] rfl hB.c5 hB.l5 zb zb yy zb zb zb) ?_; rintro ⟨i, hi⟩; simp only [lpS, LPXB]; (try dsimp only at hi); rcases cl2 hi (by have := hb.l; omega) with ⟨hlt, wi⟩ | ⟨hlt, rfl⟩; have hcc := hb.ll _ (A5p hlt); have hz := szn (n := i + 1) (k := 24) (by have := hb.l; omega) yb; have hz2 : i <= 4611686018427387903 := (by have := hb.l; omega); have hy3 := szn (n := (p.la[i]'hlt).length) (k := 8) ya yb; have hy4 : (p.la[i]'hlt).length <= 4611686018427387904 := ya)
  | (refine ye ?_; refine a0b ⟨i + 1, by omega⟩ (Gk.trans (gk5S [([71], some [7, 35])] rfl hB.c5 hB.l5 zb zb yy z3u z3u z3u) (b9j [7, 29] 42 5 (inss (p.fu[i]'hlt).code) hB.c5 hB.live z3s z3t z36)) yf)
  | (refine ye ?_; refine a0b ⟨i + 1, by omega⟩ (Gk.trans (gk5S [([72], some [7, 54])] rfl hB.c5 hB.l5 zb zb yy z3v z3v z3v) (b9j [7, 52] 3 1 (ints (p.la[i]'hlt)) hB.c5 hB.live z3s z3t z36)) yf)
  | (with_reducible refine b9t (id := 11) [[72]] 12 a0d yc fun K hK => ?_)
  | (refine b8i (j := 9) (e := 36) (x := .tmp 45) (y := .tmp 53) (t := 24) (tx := 24) (Aj := upd noH [7, 53] (.cells 36 1 [[.sl [7, 52] 1 0 (p.la[i]'hlt).length]])) [72] [7, 53] (.cells 36 1 (lays (p.la.take i))) (.cells 36 1 [[.sl [7, 52] 1 0 (p.la[i]'hlt).length]]) 1 (lays (p.la.take i) ++ [[.sl [7, 52] 1 0 (p.la[i]'hlt).length]]) (.sl [7, 54] 1 0 (i + 1)) yb yc ?_ z1f rfl (A5l rfl) ?_ yc ?_ ?_ ?_ yb ?_ ?_ ?_ ?_; (focus (exact rfl)); (focus (first | rfl | simp)); (iterate 5 (focus (first | rfl | simp [*, SIMB, rmvs, rmv, a2r]))); (focus (simp [*, -List.all_flatten, -List.all_eq_true, yl, asR, a0q, A1c, A2d, rmvs, rmv, a2r, FV.cellV, d1c, c4o, a0w, A0c, b5p, a2x, c1l, b6z, a1d, fB, f71, f72, a0j, a0v, Gb.row, FnD.row])))
  | with_reducible first | refine a0n (id := 1) 8 a0d yc fun K hK => ?_ | refine z4m ?_ | refine stpK ?_; intro K hK | refine stpC ?_; intro T E hT hE | refine stp2 ?_ ?_ <;> intro h | refine yg ?_; clear hK K | refine yh ?_; clear hT hE T E
  | simp [*, -List.all_flatten, -List.all_eq_true, yl, asR, a0q, A1c, A2d, rmvs, rmv, a2r, FV.cellV, d1c, c4o, a0w, A0c, b5p, a2x, c1l, b6z, a1d, fB, f71, f72, a0j, a0v, Gb.row, FnD.row]
theorem c5m (hv : a0m p = true) (hF : FOk p f nm pa rg c) (hi : i < c.length) (ho : c[i].op = 39) : Pq 20 [PA p, .int .i64 f, .int .i64 i] (.int .i64 (usC c i)) := by
 have hc := hF.hc
 have h1000 := hc.n1000
 have hbl := b3w c hc
 have he := hF.e
 have hf := hF.hf
 have hu := c7p hi
 rw [if_pos (by rw [ho]; decide)] at hu
 obtain ⟨u, huu⟩ := ex_ (usC c i)
 rw [huu] at hu ⊢
 replace hu := hu.symm
 clear huu
 have hsl := b4c c i
 have hil : (i : Int) < (c.length : Int) := by omega
 have wi2 : IntKind.wrap .i64 ((i : Int) - 1) = (i : Int) - 1 := by rw [IntKind.wrap_i64]; omega
 have hfl : f < (fns p.fu).length := by rw [a2a]; exact hf
 refine yq Tryz.f20 [.tmp 6] 13 104 [] 0 ?_
 repeat' first
  | (refine yi ?_; refine a0e (σ := {j : Nat // j <= (blks c).length}) (fun y => [(10, .int .i64 (frB c i y.1 : Int)), (11, .int .i64 (y.1 : Int))]) [] (fun y => []) [] (fun y => []) (fun y => noH) (fun y => (blks c).length - y.1) ⟨0, by simp⟩ (gk3 (j := 0) [] (Bs.pc _) z0r z0r z0r z0r z0r z0r z0r) ?_; rintro ⟨j, hj⟩; simp only [lpS, LPXB]; (try dsimp only at hj); rcases a0c hj with hlt | ⟨hlt, e⟩; rotate_left; subst e; have hfe := d9t hc hi; rotate_left; have wj := wli hlt ya; by_cases hfr : (blks c)[j].1 <= i; have hfy := g3b hc hi hlt hfr; have hfri : ((blks c)[j].1 : Int) <= (i : Int) := ya; rotate_left; have hfn := g3c hc hi hlt hfr; have hfri : ¬ ((blks c)[j].1 : Int) <= (i : Int) := ya; rotate_left)
  | (refine ye ?_; refine a0b (⟨j + 1, by omega⟩) z2g yf)
  | (refine yi ?_; refine a0e (σ := {q : Nat // stF c i <= q /\ q <= i /\ usB c c[i].a (stF c i) q = u}) (fun y => [(12, .int .i64 ((y.1 : Int) - 1))]) [] (fun y => []) [] (fun y => []) (fun y => noH) (fun y => y.1 - stF c i) ⟨i, hsl, A5s _, hu⟩ z2g ?_; rintro ⟨q, hq1, hq2, hqe⟩; simp only [lpS, LPXB]; (try dsimp only at hq1 hq2 hqe); rcases A0r (stF c i) q with hlt | hge; rotate_left; have hqs : ¬ (stF c i : Int) <= (q : Int) - 1 := ya; rw [d4h hge] at hqe; replace hqe := hqe.symm; clear hu; rotate_left; obtain ⟨m, rfl⟩ : ∃ m, q = m + 1 := ⟨q - 1, by omega⟩; have hml : m < c.length := ya; have hqs : (stF c i : Int) <= (m : Int) := ya; have wm : IntKind.wrap .i64 ((m : Int) - 1) = (m : Int) - 1 := zh; have tDf := d5c hv hF hml; have hdl := c6v c[m]; have tHs := c5j (dfL c[m]) c[i].a ya; have hm0 : (0 : Int) <= (m : Int) := ya; have hmli : (m : Int) < (c.length : Int) := ya; have hcs := c7o hml ya hqe; clear hu; rcases hcs with ⟨a1, a2, a3, hqe'⟩ | ⟨hno, hrest⟩; rotate_left; have hno' : c[m].op = 51 -> c[m].b = 0 -> ¬ c[m].c = c[i].a := (fun h1 h2 h3 => hno ⟨h1, h2, h3⟩); clear hno; have hsp : (c[m].op = 51 /\ c[m].b = 0) \/ (c[m].op = 51 /\ ¬ c[m].b = 0) \/ ¬ c[m].op = 51 := ya; (rcases hrest with ⟨b1, b2, hqe'⟩ | ⟨b1, b2, hqe'⟩ | ⟨b1, hqe'⟩ <;> rw [b1] at tHs <;> rcases hsp with ⟨a1, a2⟩ | ⟨a1, a2⟩ | a1))
  | (refine ye ?_; refine a0b (⟨m, by omega, by omega, hqe'⟩) z2g yf)
  | with_reducible first | refine a0n (id := 17) 7 a0d yc fun K hK => ?_ | refine a0n (id := 15) 24 a0d yc fun K hK => ?_ | refine z34 ?_ | refine stpK ?_; intro K hK | refine stpC ?_; intro T E hT hE | refine stp2 ?_ ?_ <;> intro h | refine cpG (c2x hc) ?_ | refine cpG tDf ?_ | refine cpG tHs ?_ | refine yg ?_; clear hK K | refine yh ?_; clear hT hE T E
  | simp [*, -List.all_flatten, -List.all_eq_true, yl, asR, a0q, Ins.row, FnD.row, a6k, f0z, a6z, bRow, d7p]
theorem c5l (hv : a0m p = true) (hF : FOk p f nm pa rg c) (hi : i < c.length) (ho : c[i].op = 40) : Pq 20 [PA p, .int .i64 f, .int .i64 i] (.int .i64 (usC c i)) := by
 have hc := hF.hc
 have h1000 := hc.n1000
 have hbl := b3w c hc
 have he := hF.e
 have hf := hF.hf
 have hu := c7p hi
 rw [if_pos (by rw [ho]; decide)] at hu
 obtain ⟨u, huu⟩ := ex_ (usC c i)
 rw [huu] at hu ⊢
 replace hu := hu.symm
 clear huu
 have hsl := b4c c i
 have hil : (i : Int) < (c.length : Int) := by omega
 have wi2 : IntKind.wrap .i64 ((i : Int) - 1) = (i : Int) - 1 := by rw [IntKind.wrap_i64]; omega
 have hfl : f < (fns p.fu).length := by rw [a2a]; exact hf
 refine yq Tryz.f20 [.tmp 6] 13 104 [] 0 ?_
 repeat' first
  | (refine yi ?_; refine a0e (σ := {j : Nat // j <= (blks c).length}) (fun y => [(10, .int .i64 (frB c i y.1 : Int)), (11, .int .i64 (y.1 : Int))]) [] (fun y => []) [] (fun y => []) (fun y => noH) (fun y => (blks c).length - y.1) ⟨0, by simp⟩ (gk3 (j := 0) [] (Bs.pc _) z0r z0r z0r z0r z0r z0r z0r) ?_; rintro ⟨j, hj⟩; simp only [lpS, LPXB]; (try dsimp only at hj); rcases a0c hj with hlt | ⟨hlt, e⟩; rotate_left; subst e; have hfe := d9t hc hi; rotate_left; have wj := wli hlt ya; by_cases hfr : (blks c)[j].1 <= i; have hfy := g3b hc hi hlt hfr; have hfri : ((blks c)[j].1 : Int) <= (i : Int) := ya; rotate_left; have hfn := g3c hc hi hlt hfr; have hfri : ¬ ((blks c)[j].1 : Int) <= (i : Int) := ya; rotate_left)
  | (refine ye ?_; refine a0b (⟨j + 1, by omega⟩) z2g yf)
  | (refine yi ?_; refine a0e (σ := {q : Nat // stF c i <= q /\ q <= i /\ usB c c[i].a (stF c i) q = u}) (fun y => [(12, .int .i64 ((y.1 : Int) - 1))]) [] (fun y => []) [] (fun y => []) (fun y => noH) (fun y => y.1 - stF c i) ⟨i, hsl, A5s _, hu⟩ z2g ?_; rintro ⟨q, hq1, hq2, hqe⟩; simp only [lpS, LPXB]; (try dsimp only at hq1 hq2 hqe); rcases A0r (stF c i) q with hlt | hge; rotate_left; have hqs : ¬ (stF c i : Int) <= (q : Int) - 1 := ya; rw [d4h hge] at hqe; replace hqe := hqe.symm; clear hu; rotate_left; obtain ⟨m, rfl⟩ : ∃ m, q = m + 1 := ⟨q - 1, by omega⟩; have hml : m < c.length := ya; have hqs : (stF c i : Int) <= (m : Int) := ya; have wm : IntKind.wrap .i64 ((m : Int) - 1) = (m : Int) - 1 := zh; have tDf := d5c hv hF hml; have hdl := c6v c[m]; have tHs := c5j (dfL c[m]) c[i].a ya; have hm0 : (0 : Int) <= (m : Int) := ya; have hmli : (m : Int) < (c.length : Int) := ya; have hcs := c7o hml ya hqe; clear hu; rcases hcs with ⟨a1, a2, a3, hqe'⟩ | ⟨hno, hrest⟩; rotate_left; have hno' : c[m].op = 51 -> c[m].b = 0 -> ¬ c[m].c = c[i].a := (fun h1 h2 h3 => hno ⟨h1, h2, h3⟩); clear hno; have hsp : (c[m].op = 51 /\ c[m].b = 0) \/ (c[m].op = 51 /\ ¬ c[m].b = 0) \/ ¬ c[m].op = 51 := ya; (rcases hrest with ⟨b1, b2, hqe'⟩ | ⟨b1, b2, hqe'⟩ | ⟨b1, hqe'⟩ <;> rw [b1] at tHs <;> rcases hsp with ⟨a1, a2⟩ | ⟨a1, a2⟩ | a1))
  | (refine ye ?_; refine a0b (⟨m, by omega, by omega, hqe'⟩) z2g yf)
  | with_reducible first | refine a0n (id := 17) 7 a0d yc fun K hK => ?_ | refine a0n (id := 15) 24 a0d yc fun K hK => ?_ | refine z34 ?_ | refine stpK ?_; intro K hK | refine stpC ?_; intro T E hT hE | refine stp2 ?_ ?_ <;> intro h | refine cpG (c2x hc) ?_ | refine cpG tDf ?_ | refine cpG tHs ?_ | refine yg ?_; clear hK K | refine yh ?_; clear hT hE T E
  | simp [*, -List.all_flatten, -List.all_eq_true, yl, asR, a0q, Ins.row, FnD.row, a6k, f0z, a6z, bRow, d7p]
theorem d5b (hv : a0m p = true) (hF : FOk p f nm pa rg c) (hi : i < c.length) (hlk : lkO c[i].op = false) : Pq 20 [PA p, .int .i64 f, .int .i64 i] (.int .i64 (-1)) := by
 have he := hF.e
 have hf := hF.hf
 have hil : (i : Int) < (c.length : Int) := by omega
 have hfl : f < (fns p.fu).length := by rw [a2a]; exact hf
 simp only [lkO, Bool.or_eq_false_iff, decide_eq_false_iff_not] at hlk
 obtain ⟨hk1, hk2⟩ := hlk
 refine yq Tryz.f20 [.tmp 6] 13 104 [] 0 ?_
 repeat' first
  | with_reducible first | refine a0n (id := 17) 7 a0d yc fun K hK => ?_ | refine a0n (id := 15) 24 a0d yc fun K hK => ?_ | refine z34 ?_ | refine stpK ?_; intro K hK | refine stpC ?_; intro T E hT hE | refine stp2 ?_ ?_ <;> intro h | refine yg ?_; clear hK K | refine yh ?_; clear hT hE T E
  | simp [*, -List.all_flatten, -List.all_eq_true, yl, asR, a0q, Ins.row, FnD.row]
theorem c8c (hv : a0m p = true) (hF : FOk p f nm pa rg c) (hi : i < c.length) : Pq 20 [PA p, .int .i64 f, .int .i64 i] (.int .i64 (usC c i)) := by
 cases hlk : lkO c[i].op with
 | false =>
   have := d5b hv hF hi hlk
   rwa [show usC c i = -1 by rw [c7p hi, if_neg (by rw [hlk]; simp)]]
 | true =>
   simp only [lkO, A2v, A5w] at hlk
   rcases hlk with h | h
   . exact c5m hv hF hi h
   . exact c5l hv hF hi h
def bvL {N : Nat} (s : BitVec N) : List Bool := (List.range N).map fun v => s.getLsbD v
theorem a8o (s : BitVec N) : (bvL s).length = N := by simp [bvL]
theorem b2y (s : BitVec N) {v : Nat} (h : v < (bvL s).length) : (bvL s)[v] = s.getLsbD v := by simp [bvL]
theorem f7f (s : BitVec N) {n : Ins} (h0 : 0 <= u) : (bvL s).set u.toNat (decide (n.op = 39)) = bvL (aftB n u s) := by
 refine A0e (by simp [bvL]) fun v h1 h2 => ?_
 have hv : v < N := by simpa [bvL] using h2
 rw [A1e, b2y _ h2, c2m hv]
 split
 . rename_i e
   rw [if_pos ya]
 . rename_i e
   rw [if_neg ya, b2y _ z35]
theorem g4g (s : BitVec N) {n : Ins} (h0 : ¬ 0 <= u) : aftB n u s = s := by
 unfold aftB; rw [if_neg h0]
theorem f1x (hv : a0m p = true) (hF : FOk p f nm pa rg c) (i : Nat) : usC c i < (p.gl.length : Int) := by
 have hk := hF.hf
 have hm : (⟨nm, pa, rg, c⟩ : FnD) ∈ p.fu := by rw [<- hF.e]; exact A5p hk
 exact (e8w (vOk hv) hm i).2
theorem c3r (l : List Bool) : nfs (a0k l).flatten = true := by
 rw [f4s]; simp [a0k, a1w, nf]
end Go.Je
