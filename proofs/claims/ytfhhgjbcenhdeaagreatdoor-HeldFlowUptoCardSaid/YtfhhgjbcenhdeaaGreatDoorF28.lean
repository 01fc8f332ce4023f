/- Parts of the proof. -/
import Derived.Test.YtfhhgjbcenhdeaaGreatDoorF23
set_option linter.unusedSimpArgs false
set_option linter.unusedVariables false
namespace Go.Je
open Go Go.FM Go.Gv Go.Proofs
set_option maxRecDepth 100000
set_option maxHeartbeats 40000000
theorem e8v {p : Pg} (hp : VOk p) {m : Bool} {fk : FuncId} (hCT : CT p m fk) (hfk : fnOk Tryz.prog fk = true) {B : Heap} {Y : Pts} {g : Bool} {f pc : Nat} (hf : f < p.funcs.length) {X : Ins} (hI : InsOk p p.funcs[f] X) (hy : Shp p Y) (hB : BsM p 3 B) (q : X.op = 34 \/ X.op = 36 \/ X.op = 47) : FCr Tryz.prog Gl 141 [.ptr [81] 8 0 0, .agg [.int .i64 (f : Int), .int .i64 (pc : Int)], .agg X.row, .clo fk [] [.ptr [88] 1 0 0]] (HP [] B (MF p Y g)) (OutT p m B (a3h p f pc X) Y g) := by
 rcases q with q | q | q
 all_goals
  have hsv := a2t hp
  have fB : ∀ r, B (3 :: r) = none := fun r => (hB Y g Y g hy hy).fb 3 r (by decide)
  have y3 := hy.rn
  have y4 := hy.cn
  have hrr := hp.regs (gm_ hf)
  obtain ⟨y1, y2⟩ := hy.at hf
  obtain ⟨nr, hnr⟩ : ∃ nr : Nat, p.funcs[f].regs = (nr : Int) := ⟨p.funcs[f].regs.toNat, by have := hrr.p0; have := hrr.p1; omega⟩
  rw [hnr, tN_] at y2
  have hnr64 : nr <= 64 := by have := hrr.r64; omega
  have hIa := hI.a
  have hIb := hI.b
  have hIc := hI.c
  have hi1 : ∀ (L : List (FM.Loc × FO)) (Z : Pts) (h : Bool), inH (HP L B (MF p Z h)) [88] := fun L Z h => a6w
  have hi2 : ∀ (L : List (FM.Loc × FO)) (Z : Pts) (h : Bool), inH (HP L B (MF p Z h)) [81] := fun L Z h => a2n a2z
  have hi3 : ∀ (L : List (FM.Loc × FO)) (Z : Pts) (h : Bool), Shp p Z -> inH (HP L B (MF p Z h)) [83, f] := fun L Z h hZ => a2n (a3j (hZ.at hf).1)
  have ha : isR p.funcs[f] X.a := a3o (r := (rR X.op).1) hIa (by rw [q]; decide)
  obtain ⟨a0, a1⟩ := id ha
  have aN : (X.a).toNat < nr := by omega
  have a2 : X.a < (nr : Int) := by omega
  have haS := hy.rok hf ha
  have hb : isR p.funcs[f] X.b := a3o (r := (rR X.op).2.1) hIb (by rw [q]; decide)
  obtain ⟨b0, b1⟩ := id hb
  have bN : (X.b).toNat < nr := by omega
  have b2 : X.b < (nr : Int) := by omega
  have hbS := hy.rok hf hb
  refine a3d (res := []) 16 210 [27, 63, 62, 183, 192, 191, 190] (fun d ix => 3 :: d :: ix) (fn := Tryz.f141) (by kernel_rfl) (by rfl) (by rfl) (by rfl) (by simp) (by decide) ?_
  repeat' first
   | ((with_reducible refine a1f (id := 24) fun K hK => ?_); refine a0t 3 ?_)
   | ((with_reducible refine a1f (id := 27) fun K hK => ?_); refine a0t 5 ?_)
   | ((with_reducible refine a1f (id := 31) fun K hK => ?_); refine a0t 5 ?_)
   | ((with_reducible refine a1f (id := 33) fun K hK => ?_); refine a0t 6 ?_)
   | ((with_reducible refine a1f (id := 36) fun K hK => ?_); refine a0t 5 ?_)
   | ((with_reducible refine a1f (id := 39) fun K hK => ?_); refine a0t 5 ?_)
   | ((with_reducible refine a1f (id := 41) fun K hK => ?_); refine a0t 5 ?_)
   | ((with_reducible refine a1f (id := 45) fun K hK => ?_); refine a0t 4 ?_)
   | with_reducible first | refine a1h (id := 6) [] 7 a0y (by kernel_rfl) fun K hK => ?_ | refine a1h (id := 12) [] 8 a0y (by kernel_rfl) fun K hK => ?_ | refine a1h (id := 17) [] 16 a0y (by kernel_rfl) fun K hK => ?_ | refine a1h (id := 22) [] 11 a0y (by kernel_rfl) fun K hK => ?_ | refine a1h (id := 55) [] 12 a0y (by kernel_rfl) fun K hK => ?_ | refine a3r ?_
   | ((with_reducible refine mdH ?_); refine a2l (by kernel_rfl) (fun d hd => ?_) rfl (cl2M hCT hfk (a := X.a) (e := X.b) (hf := hf) hy hB ?_ ?_ hnr ⟨?_, ?_, ?_⟩ ha hb) ?_; (focus (cases hd; exact lbR rfl)); (focus rfl); (focus (first | rfl | (simp [ninL, ninO, a2u, nins, nin, a0e, a0m, a0c, a0v, a0a, a0b, a1j, mapO, a1o, a1m, a0p, a0k, hdN, *]; done))); (iterate 3 (focus (simp [a1p, a1v]; done))); (rintro r' H' ⟨rfl, Z2, h2, rfl, hZ2, hT2⟩))
   | ((with_reducible refine lfH ?_); refine a6j (j := 3) (hB _ _ _ _ hy hZ2) rfl ⟨rfl, Z2, h2, rfl, hZ2, hT2.congr (fun z => by simp [a3h, q, alO, gsr, rdC, wrC])⟩ trivial)
   | with_reducible first | refine a4e ?_ | refine a6g ?_ | refine a2j (id := 1) 9 a0y (by kernel_rfl) fun K hK => ?_ | refine a2j (id := 11) 6 a0y (by kernel_rfl) fun K hK => ?_ | refine stp ?_ | refine stpK ?_; intro K hK | refine stpC ?_; intro T E hT hE | refine stp2 ?_ ?_ <;> intro h | refine a0g rfl ?_ | refine a0j rfl (lbR rfl) a0i ?_ | refine a0j rfl (lbR rfl) (a0h (by simp [HPXB, a1i, fB, ext, upd, *])) ?_ | refine a1g (by decide) (by kernel_rfl) ?_ | refine a0o (by decide) ?_ | refine Kont.go hK ?_; clear hK K | refine KT.go hT ?_; clear hT hE T E | refine KT.go hE ?_; clear hT hE T E
   | simp [*, -List.all_flatten, -List.all_eq_true, DEFM, fB, a1k, a1d, a1i, hdN, a0p, a0k, a1m, a0u, a0r, a0s, a1y, a1z, a2a, anR, a5y, a5x, a2z, a3j, a2p, MG_t, MG_f, rmvs, a1c, a2o, a0x, a2b, a0b, a0e, FnD.row, Ins.row, a8w, a2p, a9i, a9h]
theorem e8x {p : Pg} (hp : VOk p) {m : Bool} {fk : FuncId} (hCT : CT p m fk) (hfk : fnOk Tryz.prog fk = true) {B : Heap} {Y : Pts} {g : Bool} {f pc : Nat} (hf : f < p.funcs.length) {X : Ins} (hI : InsOk p p.funcs[f] X) (hy : Shp p Y) (hB : BsM p 3 B) (q : X.op = 21 \/ X.op = 22 \/ X.op = 23) : FCr Tryz.prog Gl 141 [.ptr [81] 8 0 0, .agg [.int .i64 (f : Int), .int .i64 (pc : Int)], .agg X.row, .clo fk [] [.ptr [88] 1 0 0]] (HP [] B (MF p Y g)) (OutT p m B (a3h p f pc X) Y g) := by
 rcases q with q | q | q
 all_goals
  have hsv := a2t hp
  have fB : ∀ r, B (3 :: r) = none := fun r => (hB Y g Y g hy hy).fb 3 r (by decide)
  have y3 := hy.rn
  have y4 := hy.cn
  have hrr := hp.regs (gm_ hf)
  obtain ⟨y1, y2⟩ := hy.at hf
  obtain ⟨nr, hnr⟩ : ∃ nr : Nat, p.funcs[f].regs = (nr : Int) := ⟨p.funcs[f].regs.toNat, by have := hrr.p0; have := hrr.p1; omega⟩
  rw [hnr, tN_] at y2
  have hnr64 : nr <= 64 := by have := hrr.r64; omega
  have hIa := hI.a
  have hIb := hI.b
  have hIc := hI.c
  have hi1 : ∀ (L : List (FM.Loc × FO)) (Z : Pts) (h : Bool), inH (HP L B (MF p Z h)) [88] := fun L Z h => a6w
  have hi2 : ∀ (L : List (FM.Loc × FO)) (Z : Pts) (h : Bool), inH (HP L B (MF p Z h)) [81] := fun L Z h => a2n a2z
  have hi3 : ∀ (L : List (FM.Loc × FO)) (Z : Pts) (h : Bool), Shp p Z -> inH (HP L B (MF p Z h)) [83, f] := fun L Z h hZ => a2n (a3j (hZ.at hf).1)
  have ha : isR p.funcs[f] X.a := a3o (r := (rR X.op).1) hIa (by rw [q]; decide)
  obtain ⟨a0, a1⟩ := id ha
  have aN : (X.a).toNat < nr := by omega
  have a2 : X.a < (nr : Int) := by omega
  have haS := hy.rok hf ha
  have hoL := b4t p ((f : Int), (pc : Int))
  have hlk := fun (Z : Pts) (h : Bool) (L : List (FM.Loc × FO)) => f2m (p := p) (B := B) (Z := Z) (h := h) f pc L
  generalize hO : objR (a0l p) ((f : Int), (pc : Int)) = O at hoL hlk
  have hk : okA (a0l p).length [(O : Int)] := ok1 (by omega) (by omega)
  refine a3d (res := []) 16 210 [27, 63, 62, 183, 192, 191, 190] (fun d ix => 3 :: d :: ix) (fn := Tryz.f141) (by kernel_rfl) (by rfl) (by rfl) (by rfl) (by simp) (by decide) ?_
  repeat' first
   | ((with_reducible refine a1f (id := 24) fun K hK => ?_); refine a0t 3 ?_)
   | ((with_reducible refine a1f (id := 27) fun K hK => ?_); refine a0t 5 ?_)
   | ((with_reducible refine a1f (id := 31) fun K hK => ?_); refine a0t 5 ?_)
   | ((with_reducible refine a1f (id := 33) fun K hK => ?_); refine a0t 6 ?_)
   | ((with_reducible refine a1f (id := 36) fun K hK => ?_); refine a0t 5 ?_)
   | ((with_reducible refine a1f (id := 39) fun K hK => ?_); refine a0t 5 ?_)
   | ((with_reducible refine a1f (id := 41) fun K hK => ?_); refine a0t 5 ?_)
   | ((with_reducible refine a1f (id := 45) fun K hK => ?_); refine a0t 4 ?_)
   | with_reducible first | refine a1h (id := 6) [] 7 a0y (by kernel_rfl) fun K hK => ?_ | refine a1h (id := 12) [] 8 a0y (by kernel_rfl) fun K hK => ?_ | refine a1h (id := 17) [] 16 a0y (by kernel_rfl) fun K hK => ?_ | refine a1h (id := 22) [] 11 a0y (by kernel_rfl) fun K hK => ?_ | refine a1h (id := 55) [] 12 a0y (by kernel_rfl) fun K hK => ?_ | refine a3r ?_ | refine hfc1 [3, 95] (mapO [(O : Int)]) (fun H2 _ h0 => d8n (O : Int) h0) ?_
   | ((with_reducible refine mdH ?_); refine a2l hfk (fun d hd => ?_) rfl (b4g (.r f X.a.toNat) [3, 95] hCT hB (by decide) hy haS hk (by simp [HPXB, fB, a1k, a1d, a1i]) rfl ?_) ?_; (focus (cases hd; exact lbR rfl)); (focus (first | rfl | (simp [ninL, ninO, a2u, nins, nin, a0e, a0m, a0c, a0v, a0a, a0b, a1j, mapO, a1o, a0p, a0k, hdN, *]; done))); (rintro r' H' ⟨rfl, Z2, h2, rfl, hZ2, hT2⟩))
   | ((with_reducible refine lfH ?_); refine a6j (j := 3) (hB _ _ _ _ hy hZ2) rfl ⟨rfl, Z2, h2, rfl, hZ2, hT2.congr (fun z => by simp [a3h, q, alO, inS, gsr, hO])⟩ trivial)
   | with_reducible first | refine a4e ?_ | refine a6g ?_ | refine a2j (id := 1) 9 a0y (by kernel_rfl) fun K hK => ?_ | refine a2j (id := 11) 6 a0y (by kernel_rfl) fun K hK => ?_ | refine stp ?_ | refine stpK ?_; intro K hK | refine stpC ?_; intro T E hT hE | refine stp2 ?_ ?_ <;> intro h | refine a0g rfl ?_ | refine a0j rfl (lbR rfl) a0i ?_ | refine a0j rfl (lbR rfl) (a0h (by simp [HPXB, a1i, fB, ext, upd, *])) ?_ | refine a1g (by decide) (by kernel_rfl) ?_ | refine a0o (by decide) ?_ | refine Kont.go hK ?_; clear hK K | refine KT.go hT ?_; clear hT hE T E | refine KT.go hE ?_; clear hT hE T E
   | simp [*, -List.all_flatten, -List.all_eq_true, DEFM, fB, a1k, a1d, a1i, hdN, a0p, a0k, a1m, a0u, a0r, a0s, a1y, a1z, a2a, anR, a5y, a5x, a2z, a3j, a2p, MG_t, MG_f, rmvs, a1c, a2o, a0x, a2b, a0b, a0e, FnD.row, Ins.row, a8w, a2p, a9i, a9h]
theorem c_24 {p : Pg} (hp : VOk p) {m : Bool} {fk : FuncId} (hCT : CT p m fk) (hfk : fnOk Tryz.prog fk = true) {B : Heap} {Y : Pts} {g : Bool} {f pc : Nat} (hf : f < p.funcs.length) {X : Ins} (hI : InsOk p p.funcs[f] X) (hy : Shp p Y) (hB : BsM p 3 B) (q : X.op = 24) : FCr Tryz.prog Gl 141 [.ptr [81] 8 0 0, .agg [.int .i64 (f : Int), .int .i64 (pc : Int)], .agg X.row, .clo fk [] [.ptr [88] 1 0 0]] (HP [] B (MF p Y g)) (OutT p m B (a3h p f pc X) Y g) := by
 have hsv := a2t hp
 have fB : ∀ r, B (3 :: r) = none := fun r => (hB Y g Y g hy hy).fb 3 r (by decide)
 have y3 := hy.rn
 have y4 := hy.cn
 have hrr := hp.regs (gm_ hf)
 obtain ⟨y1, y2⟩ := hy.at hf
 obtain ⟨nr, hnr⟩ : ∃ nr : Nat, p.funcs[f].regs = (nr : Int) := ⟨p.funcs[f].regs.toNat, by have := hrr.p0; have := hrr.p1; omega⟩
 rw [hnr, tN_] at y2
 have hnr64 : nr <= 64 := by have := hrr.r64; omega
 have hIa := hI.a
 have hIb := hI.b
 have hIc := hI.c
 have hi1 : ∀ (L : List (FM.Loc × FO)) (Z : Pts) (h : Bool), inH (HP L B (MF p Z h)) [88] := fun L Z h => a6w
 have hi2 : ∀ (L : List (FM.Loc × FO)) (Z : Pts) (h : Bool), inH (HP L B (MF p Z h)) [81] := fun L Z h => a2n a2z
 have hi3 : ∀ (L : List (FM.Loc × FO)) (Z : Pts) (h : Bool), Shp p Z -> inH (HP L B (MF p Z h)) [83, f] := fun L Z h hZ => a2n (a3j (hZ.at hf).1)
 have ha : isR p.funcs[f] X.a := a3o (r := (rR X.op).1) hIa (by rw [q]; decide)
 obtain ⟨a0, a1⟩ := id ha
 have aN : (X.a).toNat < nr := by omega
 have a2 : X.a < (nr : Int) := by omega
 have haS := hy.rok hf ha
 have hoL := b4t p ((f : Int), (pc : Int))
 have hlk := fun (Z : Pts) (h : Bool) (L : List (FM.Loc × FO)) => f2m (p := p) (B := B) (Z := Z) (h := h) f pc L
 generalize hO : objR (a0l p) ((f : Int), (pc : Int)) = O at hoL hlk
 have hk : okA (a0l p).length [(O : Int)] := ok1 (by omega) (by omega)
 have hx := hI.x24 q
 have hc0 : 0 <= X.c := by have := hI.c; rw [q] at this; simp [rR, opR] at this; exact this.1
 have hx1 : X.a + X.c < (nr : Int) := by have := hx.1; unfold W at this; rw [IntKind.wrap_i64] at this; omega
 obtain ⟨cn, hcn⟩ : ∃ cn : Nat, X.c = (cn : Int) := ⟨X.c.toNat, by omega⟩
 have hcN : X.c.toNat = cn := by omega
 have hcl : O < (a0l p).length := hoL
 refine a3d (res := []) 16 210 [27, 63, 62, 183, 192, 191, 190] (fun d ix => 3 :: d :: ix) (fn := Tryz.f141) (by kernel_rfl) (by rfl) (by rfl) (by rfl) (by simp) (by decide) ?_
 repeat' first
  | ((with_reducible refine a1f (id := 24) fun K hK => ?_); refine a0t 3 ?_)
  | ((with_reducible refine a1f (id := 27) fun K hK => ?_); refine a0t 5 ?_)
  | ((with_reducible refine a1f (id := 31) fun K hK => ?_); refine a0t 5 ?_)
  | ((with_reducible refine a1f (id := 33) fun K hK => ?_); refine a0t 6 ?_)
  | ((with_reducible refine a1f (id := 36) fun K hK => ?_); refine a0t 5 ?_)
  | ((with_reducible refine a1f (id := 39) fun K hK => ?_); refine a0t 5 ?_)
  | ((with_reducible refine a1f (id := 41) fun K hK => ?_); refine a0t 5 ?_)
  | ((with_reducible refine a1f (id := 45) fun K hK => ?_); refine a0t 4 ?_)
  | with_reducible first | refine a1h (id := 6) [] 7 a0y (by kernel_rfl) fun K hK => ?_ | refine a1h (id := 12) [] 8 a0y (by kernel_rfl) fun K hK => ?_ | refine a1h (id := 17) [] 16 a0y (by kernel_rfl) fun K hK => ?_ | refine a1h (id := 22) [] 11 a0y (by kernel_rfl) fun K hK => ?_ | refine a1h (id := 55) [] 12 a0y (by kernel_rfl) fun K hK => ?_ | refine a3r ?_ | refine hfc1 [3, 95] (mapO [(O : Int)]) (fun H2 _ h0 => d8n (O : Int) h0) ?_
  | ((with_reducible refine mdH ?_); refine a2l hfk (fun d hd => ?_) rfl (b4g (.r f X.a.toNat) [3, 95] hCT hB (by decide) hy haS hk (by simp [HPXB, fB, a1k, a1d, a1i]) rfl ?_) ?_; (focus (cases hd; exact lbR rfl)); (focus (first | rfl | (simp [ninL, ninO, a2u, nins, nin, a0e, a0m, a0c, a0v, a0a, a0b, a1j, mapO, a1o, a0p, a0k, hdN, *]; done))); (rintro r' H' ⟨rfl, Z2, h2, rfl, hZ2, hT2⟩))
  | ((with_reducible refine a1a ?_); refine a1q (σ := {x : Nat × (Pts × Bool) // x.1 <= cn /\ Shp p x.2.1 /\ TR m (fun z => subR (rg z f X.a) [(O : Int)] /\ ckC f X.a O x.1 z) (fun z => subR (rg z f X.a) [(O : Int)] /\ ckC f X.a O x.1 z) Y g x.2.1 x.2.2}) (fun y => [(12, .undef)]) [62] (fun y => [(63, .int .i64 (y.1.1 : Int))]) [[3, 95]] (fun y => []) (fun y => MF p y.1.2.1 y.1.2.2) (fun y => cn - y.1.1) ⟨(0, (Z2, h2)), Nat.zero_le _, hZ2, hT2.congr (fun z => by simp [inS, gsr, f8x])⟩ (gk3i (j := 3) [] (hB _ _ _ _ hy hZ2) ?_ ?_ ?_ ?_ ?_ ?_ ?_) ?_; (iterate 7 (focus (first | rfl | (simp [LPXB, *, SIMB, hdN, injB, fB, a1k, a1d, a1i, hdN, a0p, a0k, a1m]; done)))); rintro ⟨⟨k, ⟨V, v⟩⟩, hk2, hV, hT3⟩; simp only [lpS, LPXB]; (try dsimp only at hk2 hV hT3); obtain ⟨v1, v2⟩ := hV.at hf; rw [hnr, tN_] at v2; have v3 := hV.rn; have v4 := hV.cn; rcases a0z hk2 with hlk | ⟨hlk, he⟩; rotate_left; subst k; rotate_left; have wk := wli hlk (by omega); have w1 : IntKind.wrap .i64 (X.a + 1) = X.a + 1 := (by rw [IntKind.wrap_i64]; omega); have w2 : IntKind.wrap .i64 (X.a + 1 + (k : Int)) = X.a + ((k : Int) + 1) := (by rw [IntKind.wrap_i64]; omega); have u2 : X.a + ((k : Int) + 1) < (nr : Int) := (by omega); have u3 : 0 <= X.a + ((k : Int) + 1) := (by omega); have u4 : (X.a + ((k : Int) + 1)).toNat < nr := (by omega); have hfr := hV.rok hf (a := X.a + ((k : Int) + 1)) ⟨u3, by omega⟩; have hto := hV.cok (o := (O : Int)) (by omega) (by omega); have hto2 : (SL.c O).ok V := (by simpa using hto))
  | ((with_reducible refine mdH ?_); refine a2l hfk (fun d hd => ?_) rfl (b4g (.c O) (SL.r f (X.a + ((k : Int) + 1)).toNat).loc hCT hB (by decide) hV hto2 (hV.gets (.r f (X.a + ((k : Int) + 1)).toNat)) (a5u hfr) rfl ?_) ?_; (focus (cases hd; exact lbR rfl)); (focus (first | rfl | (simp [ninL, ninO, a2u, nins, nin, a0e, a0m, a0c, a0v, a0a, a0b, a1j, mapO, a1o, a0p, a0k, hdN, *]; done))); (rintro r' H' ⟨rfl, V2, v2_, rfl, hV2, hT4⟩))
  | ((with_reducible refine a0q ?_); refine a1b (⟨(k + 1, (V2, v2_)), by omega, hV2, hT3.stepk hT4 (fun z => by rw [f8w, and_assoc])⟩) (gk3i (j := 3) [] (hB _ _ _ _ hy hV2) ?_ ?_ ?_ ?_ ?_ ?_ ?_) ?_; (iterate 7 (focus (first | rfl | (simp [LPXB, *, SIMB, hdN, injB, fB, a1k, a1d, a1i, hdN, a0p, a0k, a1m]; done)))); (focus (dsimp only; omega)))
  | ((with_reducible refine lfH ?_); refine a6j (j := 3) (hB _ _ _ _ hy hV) rfl ⟨rfl, V, v, rfl, hV, hT3.congr (fun z => by simp [a3h, q, alO, hO, hcN, ckC])⟩ trivial)
  | with_reducible first | refine a4e ?_ | refine a6g ?_ | refine a2j (id := 1) 9 a0y (by kernel_rfl) fun K hK => ?_ | refine a2j (id := 11) 6 a0y (by kernel_rfl) fun K hK => ?_ | refine stp ?_ | refine stpK ?_; intro K hK | refine stpC ?_; intro T E hT hE | refine stp2 ?_ ?_ <;> intro h | refine a0g rfl ?_ | refine a0j rfl (lbR rfl) a0i ?_ | refine a0j rfl (lbR rfl) (a0h (by simp [HPXB, a1i, fB, ext, upd, *])) ?_ | refine a1g (by decide) (by kernel_rfl) ?_ | refine a0o (by decide) ?_ | refine Kont.go hK ?_; clear hK K | refine KT.go hT ?_; clear hT hE T E | refine KT.go hE ?_; clear hT hE T E
  | simp [*, -List.all_flatten, -List.all_eq_true, DEFM, fB, a1k, a1d, a1i, hdN, a0p, a0k, a1m, a0u, a0r, a0s, a1y, a1z, a2a, anR, a5y, a5x, a2z, a3j, a2p, MG_t, MG_f, rmvs, a1c, a2o, a0x, a2b, a0b, a0e, FnD.row, Ins.row, a8w, a2p, a9i, a9h]
theorem f4o {p : Pg} (hp : VOk p) {m : Bool} {fk : FuncId} (hCT : CT p m fk) (hfk : fnOk Tryz.prog fk = true) {B : Heap} {Y : Pts} {g : Bool} {f pc : Nat} (hf : f < p.funcs.length) {X : Ins} (hI : InsOk p p.funcs[f] X) (hy : Shp p Y) (hB : BsM p 3 B) (q : X.op = 33 \/ X.op = 35) : FCr Tryz.prog Gl 141 [.ptr [81] 8 0 0, .agg [.int .i64 (f : Int), .int .i64 (pc : Int)], .agg X.row, .clo fk [] [.ptr [88] 1 0 0]] (HP [] B (MF p Y g)) (OutT p m B (a3h p f pc X) Y g) := by
 rcases q with q | q
 all_goals
  have hsv := a2t hp
  have fB : ∀ r, B (3 :: r) = none := fun r => (hB Y g Y g hy hy).fb 3 r (by decide)
  have y3 := hy.rn
  have y4 := hy.cn
  have hrr := hp.regs (gm_ hf)
  obtain ⟨y1, y2⟩ := hy.at hf
  obtain ⟨nr, hnr⟩ : ∃ nr : Nat, p.funcs[f].regs = (nr : Int) := ⟨p.funcs[f].regs.toNat, by have := hrr.p0; have := hrr.p1; omega⟩
  rw [hnr, tN_] at y2
  have hnr64 : nr <= 64 := by have := hrr.r64; omega
  have hIa := hI.a
  have hIb := hI.b
  have hIc := hI.c
  have hi1 : ∀ (L : List (FM.Loc × FO)) (Z : Pts) (h : Bool), inH (HP L B (MF p Z h)) [88] := fun L Z h => a6w
  have hi2 : ∀ (L : List (FM.Loc × FO)) (Z : Pts) (h : Bool), inH (HP L B (MF p Z h)) [81] := fun L Z h => a2n a2z
  have hi3 : ∀ (L : List (FM.Loc × FO)) (Z : Pts) (h : Bool), Shp p Z -> inH (HP L B (MF p Z h)) [83, f] := fun L Z h hZ => a2n (a3j (hZ.at hf).1)
  have ha : isR p.funcs[f] X.a := a3o (r := (rR X.op).1) hIa (by rw [q]; decide)
  obtain ⟨a0, a1⟩ := id ha
  have aN : (X.a).toNat < nr := by omega
  have a2 : X.a < (nr : Int) := by omega
  have haS := hy.rok hf ha
  have hb : isR p.funcs[f] X.b := a3o (r := (rR X.op).2.1) hIb (by rw [q]; decide)
  obtain ⟨b0, b1⟩ := id hb
  have bN : (X.b).toNat < nr := by omega
  have b2 : X.b < (nr : Int) := by omega
  have hbS := hy.rok hf hb
  refine a3d (res := []) 16 210 [27, 63, 62, 183, 192, 191, 190] (fun d ix => 3 :: d :: ix) (fn := Tryz.f141) (by kernel_rfl) (by rfl) (by rfl) (by rfl) (by simp) (by decide) ?_
  repeat' first
   | ((with_reducible refine a1f (id := 24) fun K hK => ?_); refine a0t 3 ?_)
   | ((with_reducible refine a1f (id := 27) fun K hK => ?_); refine a0t 5 ?_)
   | ((with_reducible refine a1f (id := 31) fun K hK => ?_); refine a0t 5 ?_)
   | ((with_reducible refine a1f (id := 33) fun K hK => ?_); refine a0t 6 ?_)
   | ((with_reducible refine a1f (id := 36) fun K hK => ?_); refine a0t 5 ?_)
   | ((with_reducible refine a1f (id := 39) fun K hK => ?_); refine a0t 5 ?_)
   | ((with_reducible refine a1f (id := 41) fun K hK => ?_); refine a0t 5 ?_)
   | ((with_reducible refine a1f (id := 45) fun K hK => ?_); refine a0t 4 ?_)
   | with_reducible first | refine a1h (id := 6) [] 7 a0y (by kernel_rfl) fun K hK => ?_ | refine a1h (id := 12) [] 8 a0y (by kernel_rfl) fun K hK => ?_ | refine a1h (id := 17) [] 16 a0y (by kernel_rfl) fun K hK => ?_ | refine a1h (id := 22) [] 11 a0y (by kernel_rfl) fun K hK => ?_ | refine a1h (id := 55) [] 12 a0y (by kernel_rfl) fun K hK => ?_ | refine a3r ?_
   | ((with_reducible refine mdH ?_); refine a2l (by kernel_rfl) (fun d hd => ?_) rfl (cl1M hCT hfk (a := X.b) (e := X.a) (hf := hf) hy hB ?_ ?_ hnr ⟨?_, ?_, ?_⟩ hb ha) ?_; (focus (cases hd; exact lbR rfl)); (focus rfl); (focus (first | rfl | (simp [ninL, ninO, a2u, nins, nin, a0e, a0m, a0c, a0v, a0a, a0b, a1j, mapO, a1o, a1m, a0p, a0k, hdN, *]; done))); (iterate 3 (focus (simp [a1p, a1v]; done))); (rintro r' H' ⟨rfl, Z2, h2, rfl, hZ2, hT2⟩))
   | ((with_reducible refine lfH ?_); refine a6j (j := 3) (hB _ _ _ _ hy hZ2) rfl ⟨rfl, Z2, h2, rfl, hZ2, hT2.congr (fun z => by simp [a3h, q, alO, gsr, rdC, wrC])⟩ trivial)
   | with_reducible first | refine a4e ?_ | refine a6g ?_ | refine a2j (id := 1) 9 a0y (by kernel_rfl) fun K hK => ?_ | refine a2j (id := 11) 6 a0y (by kernel_rfl) fun K hK => ?_ | refine stp ?_ | refine stpK ?_; intro K hK | refine stpC ?_; intro T E hT hE | refine stp2 ?_ ?_ <;> intro h | refine a0g rfl ?_ | refine a0j rfl (lbR rfl) a0i ?_ | refine a0j rfl (lbR rfl) (a0h (by simp [HPXB, a1i, fB, ext, upd, *])) ?_ | refine a1g (by decide) (by kernel_rfl) ?_ | refine a0o (by decide) ?_ | refine Kont.go hK ?_; clear hK K | refine KT.go hT ?_; clear hT hE T E | refine KT.go hE ?_; clear hT hE T E
   | simp [*, -List.all_flatten, -List.all_eq_true, DEFM, fB, a1k, a1d, a1i, hdN, a0p, a0k, a1m, a0u, a0r, a0s, a1y, a1z, a2a, anR, a5y, a5x, a2z, a3j, a2p, MG_t, MG_f, rmvs, a1c, a2o, a0x, a2b, a0b, a0e, FnD.row, Ins.row, a8w, a2p, a9i, a9h]
end Go.Je
