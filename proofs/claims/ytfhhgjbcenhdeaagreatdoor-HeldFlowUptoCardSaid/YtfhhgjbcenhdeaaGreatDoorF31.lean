/- Parts of the proof. -/
import Derived.Test.YtfhhgjbcenhdeaaGreatDoorF23
import Derived.Test.YtfhhgjbcenhdeaaGreatDoorF25
set_option linter.unusedSimpArgs false
set_option linter.unusedVariables false
namespace Go.Je
open Go Go.FM Go.Gv Go.Proofs
set_option maxRecDepth 100000
set_option maxHeartbeats 40000000
theorem c_38 {p : Pg} (hp : VOk p) {m : Bool} {fk : FuncId} (hCT : CT p m fk) (hfk : fnOk Tryz.prog fk = true) {B : Heap} {Y : Pts} {g : Bool} {f pc : Nat} (hf : f < p.funcs.length) {X : Ins} (hI : InsOk p p.funcs[f] X) (hy : Shp p Y) (hB : BsM p 3 B) (q : X.op = 38) : FCr Tryz.prog Gl 141 [.ptr [81] 8 0 0, .agg [.int .i64 (f : Int), .int .i64 (pc : Int)], .agg X.row, .clo fk [] [.ptr [88] 1 0 0]] (HP [] B (MF p Y g)) (OutT p m B (a3h p f pc X) Y g) := by
 have hsv := a2t hp
 have fB : ∀ r, B (3 :: r) = none := fun r => (hB Y g Y g hy hy).fb 3 r (by decide)
 have y3 := hy.rn
 have y4 := hy.cn
 have hrr := hp.regs (gm_ hf)
 obtain ⟨y1, y2⟩ := hy.at hf
 obtain ⟨nr, hnr⟩ : ∃ nr : Nat, p.funcs[f].regs = (nr : Int) := ⟨p.funcs[f].regs.toNat, by have := hrr.p0; have := hrr.p1; omega⟩
 rw [hnr, tN_] at y2
 have hnr64 : nr <= 64 := by have := hrr.r64; omega
 have hIa := hI.a
 have hIb := hI.b
 have hIc := hI.c
 have hi1 : ∀ (L : List (FM.Loc × FO)) (Z : Pts) (h : Bool), inH (HP L B (MF p Z h)) [88] := fun L Z h => a6w
 have hi2 : ∀ (L : List (FM.Loc × FO)) (Z : Pts) (h : Bool), inH (HP L B (MF p Z h)) [81] := fun L Z h => a2n a2z
 have hi3 : ∀ (L : List (FM.Loc × FO)) (Z : Pts) (h : Bool), Shp p Z -> inH (HP L B (MF p Z h)) [83, f] := fun L Z h hZ => a2n (a3j (hZ.at hf).1)
 have hb : isR p.funcs[f] X.b := a3o (r := (rR X.op).2.1) hIb (by rw [q]; decide)
 obtain ⟨b0, b1⟩ := id hb
 have bN : (X.b).toNat < nr := by omega
 have b2 : X.b < (nr : Int) := by omega
 have hbS := hy.rok hf hb
 have hx := hI.x38 q
 have hcR : isR p.funcs[f] X.c := a3o (r := (rR X.op).2.2) hIc (by rw [q]; decide)
 have wc : IntKind.wrap .i64 (X.c + 1) = X.c + 1 := by have := hcR.1; have := hcR.2; rw [IntKind.wrap_i64]; omega
 have hc1 : isR p.funcs[f] (X.c + 1) := ⟨by have := hcR.1; omega, by unfold W at hx; rw [wc] at hx; exact hx⟩
 refine a3d (res := []) 16 210 [27, 63, 62, 183, 192, 191, 190] (fun d ix => 3 :: d :: ix) (fn := Tryz.f141) (by kernel_rfl) (by rfl) (by rfl) (by rfl) (by simp) (by decide) ?_
 repeat' first
  | ((with_reducible refine a1f (id := 24) fun K hK => ?_); refine a0t 3 ?_)
  | ((with_reducible refine a1f (id := 27) fun K hK => ?_); refine a0t 5 ?_)
  | ((with_reducible refine a1f (id := 31) fun K hK => ?_); refine a0t 5 ?_)
  | ((with_reducible refine a1f (id := 33) fun K hK => ?_); refine a0t 6 ?_)
  | ((with_reducible refine a1f (id := 36) fun K hK => ?_); refine a0t 5 ?_)
  | ((with_reducible refine a1f (id := 39) fun K hK => ?_); refine a0t 5 ?_)
  | ((with_reducible refine a1f (id := 41) fun K hK => ?_); refine a0t 5 ?_)
  | ((with_reducible refine a1f (id := 45) fun K hK => ?_); refine a0t 4 ?_)
  | with_reducible first | refine a1h (id := 6) [] 7 a0y (by kernel_rfl) fun K hK => ?_ | refine a1h (id := 12) [] 8 a0y (by kernel_rfl) fun K hK => ?_ | refine a1h (id := 17) [] 16 a0y (by kernel_rfl) fun K hK => ?_ | refine a1h (id := 22) [] 11 a0y (by kernel_rfl) fun K hK => ?_ | refine a1h (id := 55) [] 12 a0y (by kernel_rfl) fun K hK => ?_ | refine a3r ?_
  | ((with_reducible refine mdH ?_); refine a2l (by kernel_rfl) (fun d hd => ?_) rfl (cl2M hCT hfk (a := X.b) (e := (X.c + 1)) (hf := hf) hy hB ?_ ?_ hnr ⟨?_, ?_, ?_⟩ hb hc1) ?_; (focus (cases hd; exact lbR rfl)); (focus rfl); (focus (first | rfl | (simp [ninL, ninO, a2u, nins, nin, a0e, a0m, a0c, a0v, a0a, a0b, a1j, mapO, a1o, a1m, a0p, a0k, hdN, *]; done))); (iterate 3 (focus (simp [a1p, a1v]; done))); (rintro r' H' ⟨rfl, Z2, h2, rfl, hZ2, hT2⟩))
  | ((with_reducible refine lfH ?_); refine a6j (j := 3) (hB _ _ _ _ hy hZ2) rfl ⟨rfl, Z2, h2, rfl, hZ2, hT2.congr (fun z => by simp [a3h, q, alO, gsr, rdC, wrC])⟩ trivial)
  | with_reducible first | refine a4e ?_ | refine a6g ?_ | refine a2j (id := 1) 9 a0y (by kernel_rfl) fun K hK => ?_ | refine a2j (id := 11) 6 a0y (by kernel_rfl) fun K hK => ?_ | refine stp ?_ | refine stpK ?_; intro K hK | refine stpC ?_; intro T E hT hE | refine stp2 ?_ ?_ <;> intro h | refine a0g rfl ?_ | refine a0j rfl (lbR rfl) a0i ?_ | refine a0j rfl (lbR rfl) (a0h (by simp [HPXB, a1i, fB, ext, upd, *])) ?_ | refine a1g (by decide) (by kernel_rfl) ?_ | refine a0o (by decide) ?_ | refine Kont.go hK ?_; clear hK K | refine KT.go hT ?_; clear hT hE T E | refine KT.go hE ?_; clear hT hE T E
  | simp [*, -List.all_flatten, -List.all_eq_true, DEFM, fB, a1k, a1d, a1i, hdN, a0p, a0k, a1m, a0u, a0r, a0s, a1y, a1z, a2a, anR, a5y, a5x, a2z, a3j, a2p, MG_t, MG_f, rmvs, a1c, a2o, a0x, a2b, a0b, a0e, FnD.row, Ins.row, a8w, a2p, a9i, a9h]
def rol (op : Int) (k : Nat) : Int := if k = 0 then (rI op).1 else if k = 1 then (rI op).2.1 else (rI op).2.2
def vl (x : Ins) (k : Nat) : Int := if k = 0 then x.a else if k = 1 then x.b else x.c
def dfK (x : Ins) : Nat -> List Int
 | 0 => []
 | k + 1 => dfK x k ++ rW (rol x.op k) (vl x k)
theorem c1w (r v : Int) : (rW r v).length <= 1 := by unfold rW; split <;> simp
theorem d6p (x : Ins) : ∀ k, (dfK x k).length <= k
 | 0 => nr_ _
 | k + 1 => by
   have := d6p x k
   have := c1w (rol x.op k) (vl x k)
   rw [dfK, List.length_append]; omega
theorem f6s {x : Ins} (h : 1 <= x.op /\ x.op <= 52) : dfK x 3 = dfI x := by
 simp only [dfK, dfI, rol, vl, List.nil_append, List.append_assoc]
 generalize x.op = n at h
 rcases Gv.b4r h with rfl | rfl | rfl | rfl | rfl | rfl | rfl | rfl | rfl | rfl | rfl | rfl | rfl | rfl | rfl | rfl | rfl | rfl | rfl | rfl | rfl | rfl | rfl | rfl | rfl | rfl | rfl | rfl | rfl | rfl | rfl | rfl | rfl | rfl | rfl | rfl | rfl | rfl | rfl | rfl | rfl | rfl | rfl | rfl | rfl | rfl | rfl | rfl | rfl | rfl | rfl | rfl <;> simp [rI, rR, rW]
theorem c8k {x : Ins} (h : x.op = 51) : dfL x = [] := by simp [dfL, dfI, h, rR, rW]
theorem f1e {x : Ins} (h : 1 <= x.op /\ x.op <= 52) {k : Nat} (hk : k < 3) : fIdx Tryz.prog 9 (.str (rlI x.op)) (.int .i64 (k : Int)) = some (.int .u8 (rol x.op k)) := by
 obtain ⟨⟨i1, i2, i3⟩, -, -⟩ := c5t h
 have : k = 0 \/ k = 1 \/ k = 2 := by omega
 rcases this with rfl | rfl | rfl
 . exact i1
 . exact i2
 . exact i3
theorem f5v (x : Ins) {k : Nat} (hk : k < 3) : fIdx Tryz.prog 130 (.agg [.int .i64 x.a, .int .i64 x.b, .int .i64 x.c]) (.int .i64 (k : Int)) = some (.int .i64 (vl x k)) := by
 have : k = 0 \/ k = 1 \/ k = 2 := by omega
 rcases this with rfl | rfl | rfl
 . exact f5c _ _ _
 . exact f5b _ _ _
 . exact f5a _ _ _
theorem b6n : ∀ (s l : List Int), (s.foldl a1x l).length <= l.length + s.length
 | [], l => by simp
 | a :: s, l => by
   have h1 := b6n s (a1x l a)
   have h2 := b4i l a
   rw [List.foldl_cons, List.length_cons]; omega
theorem c0w (x : Ins) : (dfL x).length <= 3 := by
 refine Nat.le_trans (b6n _ _) ?_
 have h1 := c1w (rR x.op).1 x.a
 have h2 := c1w (rR x.op).2.1 x.b
 have h3 := c1w (rR x.op).2.2 x.c
 simp [dfI]; omega
theorem f0w {p : Pg} {f i : Nat} (hf : f < p.funcs.length) (hi : i < p.funcs[f].code.length) (h1 : p.funcs.length <= 2000000) (h2 : p.funcs[f].code.length <= 2000000) {x : Ins} (hx : p.funcs[f].code[i] = x) (ho : 1 <= x.op /\ x.op <= 52) : PC Tryz.prog Gl 121 [.agg [.list 4 (fns p.funcs), .list 2 (gbs p.globals), .list 1 (lays p.layouts), .int .i64 p.main], .int .i64 f, .int .i64 i] (.list 1 (ints (dfL x))) := by
 have hd : (dfI x).foldl a1x [] = dfL x := rfl
 refine a3s (res := [.tmp 6]) 14 72 [45, 44] (fun d ix => 0 :: d :: ix) (fn := Tryz.f121) (by kernel_rfl) (by rfl) (by rfl) (by rfl) (by simp) (by decide) ?_
 repeat' first
  | ((with_reducible refine a1a ?_); refine a1q (σ := {k : Nat // k <= 3}) (fun y => [(11, .sl [0, 90] 1 0 (dfK x y.1).length), (12, .undef), (13, .undef)]) [44] (fun y => [(45, .int .i64 (y.1 : Int))]) [[0, 67], [0, 68]] (fun y => [([0, 90], .cells 3 1 (ints (dfK x y.1)))]) (fun y => noH) (fun y => 3 - y.1) ⟨0, by simp⟩ (gk3 (j := 0) [([0, 90], none)] (Bs.pc _) ?_ ?_ ?_ ?_ ?_ ?_ ?_) ?_; (iterate 7 (focus (first | rfl | (simp [LPXB, *, SIMB, hdN, injB, dfK, a2r, bk, inH]; done)))); rintro ⟨k, hk⟩; simp only [lpS, LPXB]; (try dsimp only at hk); have hdl := d6p x k; have s1 : ((dfK x k).length + 1 + ((dfK x k).length + 1) / 4 + 192) * 8 <= 140737488355328 := (by omega); have s2 : (dfK x k).length <= 4611686018427387903 := (by omega); have htq : (ints (dfK x k)).take (dfK x k).length = ints (dfK x k) := tL_ (by rw [a0n]; exact nr_ _); rcases a0z hk with hlt | ⟨hlt, e⟩; rotate_left; subst e; have h3 := f6s ho; have hdi : (dfI x).length <= 3 := (by rw [<- h3]; exact hdl); rotate_left; have wi := wli hlt (by omega); have k1 : (k : Int) < 3 := (by omega); have hr := f1e ho hlt; have hv := f5v x hlt; by_cases ha : rol x.op k = 100; have hdk : dfK x (k + 1) = dfK x k ++ [vl x k] := (by rw [dfK, rW, if_pos (.inl ha)]); rotate_left; by_cases hb : rol x.op k = 68; by_cases hg : 0 <= vl x k; have hdk : dfK x (k + 1) = dfK x k ++ [vl x k] := (by rw [dfK, rW, if_pos (.inr ⟨hb, hg⟩)]); rotate_left; have hdk : dfK x (k + 1) = dfK x k := (by rw [dfK, rW, if_neg (by rintro (h | h); exact ha h; exact hg h.2), List.append_nil]); rotate_left; have hdk : dfK x (k + 1) = dfK x k := (by rw [dfK, rW, if_neg (by rintro (h | h); exact ha h; exact hb h.1), List.append_nil]); rotate_left)
  | ((with_reducible refine a0q ?_); refine a1b (⟨k + 1, by omega⟩) (gk3 (j := 0) [([0, 90], some [0, 68])] (Bs.pc _) ?_ ?_ ?_ ?_ ?_ ?_ ?_) ?_; (iterate 7 (focus (first | rfl | (simp [LPXB, *, SIMB, hdN, injB, a4c, a6n, a2r, a4y, a2f, bk, inH]; done)))); (focus (dsimp only; omega)))
  | ((with_reducible refine a0q ?_); refine a1b (⟨k + 1, by omega⟩) (gk3 (j := 0) [] (Bs.pc _) ?_ ?_ ?_ ?_ ?_ ?_ ?_) ?_; (iterate 7 (focus (first | rfl | (simp [LPXB, *, SIMB, hdN, injB, bk, inH]; done)))); (focus (dsimp only; omega)))
  | ((with_reducible refine cgB ?_); refine a4t (d1h (l := [0, 90]) (s := dfI x) ?_ ?_ (by omega)) ?_; (focus rfl); (focus (simp [HPXB, *]; done)))
  | with_reducible first | refine stp ?_ | refine stpK ?_; intro K hK | refine stpC ?_; intro T E hT hE | refine stp2 ?_ ?_ <;> intro h | refine a0g rfl ?_ | refine a1e (t_at hf hi h1 h2 hx) (by simp [nls, nl, *, NLXB]) ?_ | refine hpc (t_at hf hi h1 h2 hx) (by simp [nls, nl, *, NLXB]) ?_ | refine a1e (c8p _ ho) (by simp [nls, nl, *, NLXB]) ?_ | refine hpc (c8p _ ho) (by simp [nls, nl, *, NLXB]) ?_ | refine a0j rfl (lbR rfl) a0i ?_ | refine a0j rfl (lbR rfl) (a0h (by simp [HPXB, ext, upd, *])) ?_ | refine a1g (by decide) (by kernel_rfl) ?_ | refine a0o (by decide) ?_ | refine Kont.go hK ?_; clear hK K | refine KT.go hT ?_; clear hT hE T E | refine KT.go hE ?_; clear hT hE T E
  | simp [*, -List.all_flatten, -List.all_eq_true, DEFB, LENB, asR, a1w, rmvs, rmv, a5p, FV.cellV, a2g, a0n, a2f, a3x, b6c, a0a, c8k, a2r]
structure FOk (p : Pg) (f : Nat) (nm : ByteArray) (pa rg : Int) (c : List Ins) : Prop where
 hf : f < p.funcs.length
 e : p.funcs[f] = ⟨nm, pa, rg, c⟩
 h1 : p.funcs.length <= 2000000
 hc : CodeOk c
 op : ∀ i (h : i < c.length), 1 <= c[i].op /\ c[i].op <= 52
structure BsH (j : Nat) (B : Heap) : Prop where
 fr : ∀ k r, k <= j -> B (k :: r) = none
 clo : Clo B
theorem BsH.bs {j : Nat} {B : Heap} (h : BsH j B) : Bs (inH (HP [] B noH)) j B noH := ⟨h.fr, fun _ _ _ => rfl, by rw [a1l]; exact h.clo, fun _ h => h⟩
theorem BsH.mono {i j : Nat} {B : Heap} (h : BsH j B) (hi : i <= j) : BsH i B := ⟨fun k r hk => h.fr k r (by omega), h.clo⟩
theorem BsH.call {i j : Nat} {B : Heap} (h : BsH j B) (L : List (FM.Loc × FO)) (hi : i < j) (hl : hdN j (L.map Prod.fst) = true) (ho : ninL (inH (HP L B noH)) L) : BsH i (updL L B) := by
 have := h.bs.call (A := noH) i hi hl ho fun _ h => h
 exact ⟨this.fb, this.clo⟩
theorem FOk.defs {p : Pg} {f : Nat} {nm : ByteArray} {pa rg : Int} {c : List Ins} (h : FOk p f nm pa rg c) {i : Nat} (hi : i < c.length) : PC Tryz.prog Gl 121 [.agg [.list 4 (fns p.funcs), .list 2 (gbs p.globals), .list 1 (lays p.layouts), .int .i64 p.main], .int .i64 f, .int .i64 i] (.list 1 (ints (dfL c[i]))) := by
 have hf := h.hf
 have e := h.e
 have hi' : i < p.funcs[f].code.length := by rw [e]; exact hi
 have h2 : p.funcs[f].code.length <= 2000000 := by rw [e]; have := h.hc.n1000; simp only; omega
 have hx : p.funcs[f].code[i] = c[i] := by simp only [e]
 exact f0w h.hf hi' h.h1 h2 hx (h.op i hi)
end Go.Je
