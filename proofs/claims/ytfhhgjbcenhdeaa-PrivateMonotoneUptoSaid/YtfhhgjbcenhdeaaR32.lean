/- Parts of the proof. -/
import Derived.Test.YtfhhgjbcenhdeaaR29
set_option linter.unusedSimpArgs false
set_option linter.unusedVariables false
namespace Go.He
open Go Go.FM Go.Gv Go.Proofs
set_option maxRecDepth 100000
set_option maxHeartbeats 40000000
theorem e7g {p : Pg} (hp : VOk p) {m : Bool} {fk : FuncId} (hCT : CT p m fk) (hfk : fnOk Try.prog fk = true) {B : Heap} {Y : Pts} {g : Bool} {f pc : Nat} (hf : f < p.funcs.length) {X : Ins} (hI : InsOk p p.funcs[f] X) (hy : Shp p Y) (hB : BsM p 3 B) (q : X.op = 34 \/ X.op = 36 \/ X.op = 47) : FCr Try.prog Gl 44 [.ptr [81] 8 0 0, .agg [.int .i64 (f : Int), .int .i64 (pc : Int)], .agg X.row, .clo fk [] [.ptr [88] 1 0 0]] (HP [] B (MF p Y g)) (OutT p m B (a3n p f pc X) Y g) := by
 rcases q with q | q | q
 all_goals
  have hsv := a2b hp
  have fB : ∀ r, B (3 :: r) = none := fun r => (hB Y g Y g hy hy).fb 3 r (by decide)
  have y3 := hy.rn
  have y4 := hy.cn
  have hrr := hp.regs (List.getElem_mem hf)
  obtain ⟨y1, y2⟩ := hy.at hf
  obtain ⟨nr, hnr⟩ : ∃ nr : Nat, p.funcs[f].regs = (nr : Int) := ⟨p.funcs[f].regs.toNat, by have := hrr.p0; have := hrr.p1; omega⟩
  rw [hnr, Int.toNat_natCast] at y2
  have hnr64 : nr <= 64 := by have := hrr.r64; omega
  have hIa := hI.a
  have hIb := hI.b
  have hIc := hI.c
  have hi1 : ∀ (L : List (FM.Loc × FO)) (Z : Pts) (h : Bool), inH (HP L B (MF p Z h)) [88] := fun L Z h => a8n
  have hi2 : ∀ (L : List (FM.Loc × FO)) (Z : Pts) (h : Bool), inH (HP L B (MF p Z h)) [81] := fun L Z h => a3p a3r
  have hi3 : ∀ (L : List (FM.Loc × FO)) (Z : Pts) (h : Bool), Shp p Z -> inH (HP L B (MF p Z h)) [83, f] := fun L Z h hZ => a3p (a4g (hZ.at hf).1)
  have ha : isR p.funcs[f] X.a := a4l (r := (rR X.op).1) hIa (by rw [q]; decide)
  obtain ⟨a0, a1⟩ := id ha
  have aN : (X.a).toNat < nr := by omega
  have a2 : X.a < (nr : Int) := by omega
  have haS := hy.rok hf ha
  have hb : isR p.funcs[f] X.b := a4l (r := (rR X.op).2.1) hIb (by rw [q]; decide)
  obtain ⟨b0, b1⟩ := id hb
  have bN : (X.b).toNat < nr := by omega
  have b2 : X.b < (nr : Int) := by omega
  have hbS := hy.rok hf hb
  refine a4f (res := []) 16 210 [27, 63, 62, 183, 192, 191, 190] (fun d ix => 3 :: d :: ix) (fn := Try.f44) (by kernel_rfl) (by rfl) (by rfl) (by rfl) (by simp) (by decide) ?_
  repeat' first
   | ((with_reducible refine a1y (id := 24) fun K hK => ?_); refine a1k 3 ?_)
   | ((with_reducible refine a1y (id := 27) fun K hK => ?_); refine a1k 5 ?_)
   | ((with_reducible refine a1y (id := 31) fun K hK => ?_); refine a1k 5 ?_)
   | ((with_reducible refine a1y (id := 33) fun K hK => ?_); refine a1k 6 ?_)
   | ((with_reducible refine a1y (id := 36) fun K hK => ?_); refine a1k 5 ?_)
   | ((with_reducible refine a1y (id := 39) fun K hK => ?_); refine a1k 5 ?_)
   | ((with_reducible refine a1y (id := 41) fun K hK => ?_); refine a1k 5 ?_)
   | ((with_reducible refine a1y (id := 45) fun K hK => ?_); refine a1k 4 ?_)
   | (with_reducible refine a1z (id := 6) [] 7 a0k (by kernel_rfl) fun K hK => ?_)
   | (with_reducible refine a1z (id := 12) [] 8 a0k (by kernel_rfl) fun K hK => ?_)
   | (with_reducible refine a1z (id := 17) [] 16 a0k (by kernel_rfl) fun K hK => ?_)
   | (with_reducible refine a1z (id := 22) [] 11 a0k (by kernel_rfl) fun K hK => ?_)
   | (with_reducible refine a1z (id := 55) [] 12 a0k (by kernel_rfl) fun K hK => ?_)
   | (with_reducible refine a4v ?_)
   | ((with_reducible refine mdH ?_); refine a3g (by kernel_rfl) (fun d hd => ?_) rfl (cl2M hCT hfk (a := X.a) (e := X.b) (hf := hf) hy hB ?_ ?_ hnr ⟨?_, ?_, ?_⟩ ha hb) ?_; (focus (cases hd; exact Nat.le_of_ble_eq_true rfl)); (focus rfl); (focus (first | rfl | (simp [ninL, ninO, a3m, nins, nin, a0e, a0i, a0a, a1d, a0c, a0b, a2c, mapO, a2f, a2g, a1i, a0w, hdN, *]; done))); (focus (simp [a2m, a2s]; done)); (focus (simp [a2m, a2s]; done)); (focus (simp [a2m, a2s]; done)); (rintro r' H' ⟨rfl, Z2, h2, rfl, hZ2, hT2⟩))
   | ((with_reducible refine lfH ?_); refine a7d (j := 3) (hB _ _ _ _ hy hZ2) rfl ⟨rfl, Z2, h2, rfl, hZ2, hT2.congr (fun z => by simp [a3n, q, alO, gsr, rdC, wrC])⟩ trivial)
   | (with_reducible refine a5n ?_)
   | (with_reducible refine a7z ?_)
   | with_reducible first | refine a0p (id := 1) 9 a0k (by kernel_rfl) fun K hK => ?_ | refine a0p (id := 11) 6 a0k (by kernel_rfl) fun K hK => ?_ | refine stp ?_
   | (with_reducible refine stpK ?_; intro K hK)
   | (with_reducible refine stpC ?_; intro T E hT hE)
   | (with_reducible refine stp2 ?_ ?_ <;> intro h)
   | with_reducible first | refine a0q rfl ?_ | refine a0t rfl (Nat.le_of_ble_eq_true rfl) a0s ?_ | refine a0t rfl (Nat.le_of_ble_eq_true rfl) (a0r (by simp [HPXB, a2d, fB, ext, upd, *])) ?_ | refine a1v (by decide) (by kernel_rfl) ?_ | refine a0x (by decide) ?_
   | (with_reducible refine Kont.go hK ?_; clear hK K)
   | ((with_reducible first | refine KT.go hT ?_ | refine KT.go hE ?_); clear hT hE T E)
   | simp [*, -List.all_flatten, -List.all_eq_true, DEFM, fB, a2e, a1u, a2d, hdN, a1i, a0w, a2g, a1m, a0y, a0z, a2n, a2o, a2p, anR, a6m, a6l, a3r, a4g, a3k, MG_t, MG_f, rmvs, a0j, a3c, a0h, a2r, a0b, a0e, FnD.row, Ins.row, b0p, a3k, b0w, b0v]
theorem c_18 {p : Pg} (hp : VOk p) {m : Bool} {fk : FuncId} (hCT : CT p m fk) (hfk : fnOk Try.prog fk = true) {B : Heap} {Y : Pts} {g : Bool} {f pc : Nat} (hf : f < p.funcs.length) {X : Ins} (hI : InsOk p p.funcs[f] X) (hy : Shp p Y) (hB : BsM p 3 B) (q : X.op = 18) : FCr Try.prog Gl 44 [.ptr [81] 8 0 0, .agg [.int .i64 (f : Int), .int .i64 (pc : Int)], .agg X.row, .clo fk [] [.ptr [88] 1 0 0]] (HP [] B (MF p Y g)) (OutT p m B (a3n p f pc X) Y g) := by
 have hsv := a2b hp
 have fB : ∀ r, B (3 :: r) = none := fun r => (hB Y g Y g hy hy).fb 3 r (by decide)
 have y3 := hy.rn
 have y4 := hy.cn
 have hrr := hp.regs (List.getElem_mem hf)
 obtain ⟨y1, y2⟩ := hy.at hf
 obtain ⟨nr, hnr⟩ : ∃ nr : Nat, p.funcs[f].regs = (nr : Int) := ⟨p.funcs[f].regs.toNat, by have := hrr.p0; have := hrr.p1; omega⟩
 rw [hnr, Int.toNat_natCast] at y2
 have hnr64 : nr <= 64 := by have := hrr.r64; omega
 have hIa := hI.a
 have hIb := hI.b
 have hIc := hI.c
 have hi1 : ∀ (L : List (FM.Loc × FO)) (Z : Pts) (h : Bool), inH (HP L B (MF p Z h)) [88] := fun L Z h => a8n
 have hi2 : ∀ (L : List (FM.Loc × FO)) (Z : Pts) (h : Bool), inH (HP L B (MF p Z h)) [81] := fun L Z h => a3p a3r
 have hi3 : ∀ (L : List (FM.Loc × FO)) (Z : Pts) (h : Bool), Shp p Z -> inH (HP L B (MF p Z h)) [83, f] := fun L Z h hZ => a3p (a4g (hZ.at hf).1)
 have ha : isR p.funcs[f] X.a := a4l (r := (rR X.op).1) hIa (by rw [q]; decide)
 obtain ⟨a0, a1⟩ := id ha
 have aN : (X.a).toNat < nr := by omega
 have a2 : X.a < (nr : Int) := by omega
 have haS := hy.rok hf ha
 have hk : okA (a0d p).length [0] := ok1 (by omega) (by have := a6r p; omega)
 refine a4f (res := []) 16 210 [27, 63, 62, 183, 192, 191, 190] (fun d ix => 3 :: d :: ix) (fn := Try.f44) (by kernel_rfl) (by rfl) (by rfl) (by rfl) (by simp) (by decide) ?_
 repeat' first
  | ((with_reducible refine a1y (id := 24) fun K hK => ?_); refine a1k 3 ?_)
  | ((with_reducible refine a1y (id := 27) fun K hK => ?_); refine a1k 5 ?_)
  | ((with_reducible refine a1y (id := 31) fun K hK => ?_); refine a1k 5 ?_)
  | ((with_reducible refine a1y (id := 33) fun K hK => ?_); refine a1k 6 ?_)
  | ((with_reducible refine a1y (id := 36) fun K hK => ?_); refine a1k 5 ?_)
  | ((with_reducible refine a1y (id := 39) fun K hK => ?_); refine a1k 5 ?_)
  | ((with_reducible refine a1y (id := 41) fun K hK => ?_); refine a1k 5 ?_)
  | ((with_reducible refine a1y (id := 45) fun K hK => ?_); refine a1k 4 ?_)
  | (with_reducible refine a1z (id := 6) [] 7 a0k (by kernel_rfl) fun K hK => ?_)
  | (with_reducible refine a1z (id := 12) [] 8 a0k (by kernel_rfl) fun K hK => ?_)
  | (with_reducible refine a1z (id := 17) [] 16 a0k (by kernel_rfl) fun K hK => ?_)
  | (with_reducible refine a1z (id := 22) [] 11 a0k (by kernel_rfl) fun K hK => ?_)
  | (with_reducible refine a1z (id := 55) [] 12 a0k (by kernel_rfl) fun K hK => ?_)
  | (with_reducible refine a4v ?_)
  | (with_reducible refine hfc1 [3, 95] (mapO [0]) (fun H2 _ h0 => d6e 0 h0) ?_)
  | ((with_reducible refine mdH ?_); refine a3g hfk (fun d hd => ?_) rfl (b5p (.r f X.a.toNat) [3, 95] hCT hB (by decide) hy haS hk (by simp [HPXB, fB, a2e, a1u, a2d]) rfl ?_) ?_; (focus (cases hd; exact Nat.le_of_ble_eq_true rfl)); (focus (first | rfl | (simp [ninL, ninO, a3m, nins, nin, a0e, a0i, a0a, a1d, a0c, a0b, a2c, mapO, a2f, a1i, a0w, hdN, *]; done))); (rintro r' H' ⟨rfl, Z2, h2, rfl, hZ2, hT2⟩))
  | ((with_reducible refine lfH ?_); refine a7d (j := 3) (hB _ _ _ _ hy hZ2) rfl ⟨rfl, Z2, h2, rfl, hZ2, hT2.congr (fun z => by simp [a3n, q, alO, inS, gsr, b7o, rdC, wrC])⟩ trivial)
  | (with_reducible refine a5n ?_)
  | (with_reducible refine a7z ?_)
  | with_reducible first | refine a0p (id := 1) 9 a0k (by kernel_rfl) fun K hK => ?_ | refine a0p (id := 11) 6 a0k (by kernel_rfl) fun K hK => ?_ | refine stp ?_
  | (with_reducible refine stpK ?_; intro K hK)
  | (with_reducible refine stpC ?_; intro T E hT hE)
  | (with_reducible refine stp2 ?_ ?_ <;> intro h)
  | with_reducible first | refine a0q rfl ?_ | refine a0t rfl (Nat.le_of_ble_eq_true rfl) a0s ?_ | refine a0t rfl (Nat.le_of_ble_eq_true rfl) (a0r (by simp [HPXB, a2d, fB, ext, upd, *])) ?_ | refine a1v (by decide) (by kernel_rfl) ?_ | refine a0x (by decide) ?_
  | (with_reducible refine Kont.go hK ?_; clear hK K)
  | ((with_reducible first | refine KT.go hT ?_ | refine KT.go hE ?_); clear hT hE T E)
  | simp [*, -List.all_flatten, -List.all_eq_true, DEFM, fB, a2e, a1u, a2d, hdN, a1i, a0w, a2g, a1m, a0y, a0z, a2n, a2o, a2p, anR, a6m, a6l, a3r, a4g, a3k, MG_t, MG_f, rmvs, a0j, a3c, a0h, a2r, a0b, a0e, FnD.row, Ins.row, b0p, a3k, b0w, b0v]
theorem c_f3 {p : Pg} (hp : VOk p) {m : Bool} {fk : FuncId} (hCT : CT p m fk) (hfk : fnOk Try.prog fk = true) {B : Heap} {Y : Pts} {g : Bool} {f pc : Nat} (hf : f < p.funcs.length) {X : Ins} (hI : InsOk p p.funcs[f] X) (hy : Shp p Y) (hB : BsM p 3 B) (q : X.op = 3 \/ X.op = 19 \/ X.op = 20) : FCr Try.prog Gl 44 [.ptr [81] 8 0 0, .agg [.int .i64 (f : Int), .int .i64 (pc : Int)], .agg X.row, .clo fk [] [.ptr [88] 1 0 0]] (HP [] B (MF p Y g)) (OutT p m B (a3n p f pc X) Y g) := by
 rcases q with q | q | q
 all_goals
  have hsv := a2b hp
  have fB : ∀ r, B (3 :: r) = none := fun r => (hB Y g Y g hy hy).fb 3 r (by decide)
  have y3 := hy.rn
  have y4 := hy.cn
  have hrr := hp.regs (List.getElem_mem hf)
  obtain ⟨y1, y2⟩ := hy.at hf
  obtain ⟨nr, hnr⟩ : ∃ nr : Nat, p.funcs[f].regs = (nr : Int) := ⟨p.funcs[f].regs.toNat, by have := hrr.p0; have := hrr.p1; omega⟩
  rw [hnr, Int.toNat_natCast] at y2
  have hnr64 : nr <= 64 := by have := hrr.r64; omega
  have hIa := hI.a
  have hIb := hI.b
  have hIc := hI.c
  have hi1 : ∀ (L : List (FM.Loc × FO)) (Z : Pts) (h : Bool), inH (HP L B (MF p Z h)) [88] := fun L Z h => a8n
  have hi2 : ∀ (L : List (FM.Loc × FO)) (Z : Pts) (h : Bool), inH (HP L B (MF p Z h)) [81] := fun L Z h => a3p a3r
  have hi3 : ∀ (L : List (FM.Loc × FO)) (Z : Pts) (h : Bool), Shp p Z -> inH (HP L B (MF p Z h)) [83, f] := fun L Z h hZ => a3p (a4g (hZ.at hf).1)
  have ha : isR p.funcs[f] X.a := a4l (r := (rR X.op).1) hIa (by rw [q]; decide)
  obtain ⟨a0, a1⟩ := id ha
  have aN : (X.a).toNat < nr := by omega
  have a2 : X.a < (nr : Int) := by omega
  have haS := hy.rok hf ha
  have hb : isR p.funcs[f] X.b := a4l (r := (rR X.op).2.1) hIb (by rw [q]; decide)
  obtain ⟨b0, b1⟩ := id hb
  have bN : (X.b).toNat < nr := by omega
  have b2 : X.b < (nr : Int) := by omega
  have hbS := hy.rok hf hb
  refine a4f (res := []) 16 210 [27, 63, 62, 183, 192, 191, 190] (fun d ix => 3 :: d :: ix) (fn := Try.f44) (by kernel_rfl) (by rfl) (by rfl) (by rfl) (by simp) (by decide) ?_
  repeat' first
   | ((with_reducible refine a1y (id := 24) fun K hK => ?_); refine a1k 3 ?_)
   | ((with_reducible refine a1y (id := 27) fun K hK => ?_); refine a1k 5 ?_)
   | ((with_reducible refine a1y (id := 31) fun K hK => ?_); refine a1k 5 ?_)
   | ((with_reducible refine a1y (id := 33) fun K hK => ?_); refine a1k 6 ?_)
   | ((with_reducible refine a1y (id := 36) fun K hK => ?_); refine a1k 5 ?_)
   | ((with_reducible refine a1y (id := 39) fun K hK => ?_); refine a1k 5 ?_)
   | ((with_reducible refine a1y (id := 41) fun K hK => ?_); refine a1k 5 ?_)
   | ((with_reducible refine a1y (id := 45) fun K hK => ?_); refine a1k 4 ?_)
   | (with_reducible refine a1z (id := 6) [] 7 a0k (by kernel_rfl) fun K hK => ?_)
   | (with_reducible refine a1z (id := 12) [] 8 a0k (by kernel_rfl) fun K hK => ?_)
   | (with_reducible refine a1z (id := 17) [] 16 a0k (by kernel_rfl) fun K hK => ?_)
   | (with_reducible refine a1z (id := 22) [] 11 a0k (by kernel_rfl) fun K hK => ?_)
   | (with_reducible refine a1z (id := 55) [] 12 a0k (by kernel_rfl) fun K hK => ?_)
   | (with_reducible refine a4v ?_)
   | ((with_reducible refine mdH ?_); refine a3g hfk (fun d hd => ?_) rfl (b5p (.r f X.a.toNat) (SL.r f X.b.toNat).loc hCT hB (by decide) hy haS (hy.gets _) (a7c hbS) rfl ?_) ?_; (focus (cases hd; exact Nat.le_of_ble_eq_true rfl)); (focus (first | rfl | (simp [ninL, ninO, a3m, nins, nin, a0e, a0i, a0a, a1d, a0c, a0b, a2c, mapO, a2f, a1i, a0w, hdN, *]; done))); (rintro r' H' ⟨rfl, Z2, h2, rfl, hZ2, hT2⟩))
   | ((with_reducible refine lfH ?_); refine a7d (j := 3) (hB _ _ _ _ hy hZ2) rfl ⟨rfl, Z2, h2, rfl, hZ2, g2b hT2 (fun z => by simp [a3n, q, alO, gsr, b7o])⟩ trivial)
   | (with_reducible refine a5n ?_)
   | (with_reducible refine a7z ?_)
   | with_reducible first | refine a0p (id := 1) 9 a0k (by kernel_rfl) fun K hK => ?_ | refine a0p (id := 11) 6 a0k (by kernel_rfl) fun K hK => ?_ | refine stp ?_
   | (with_reducible refine stpK ?_; intro K hK)
   | (with_reducible refine stpC ?_; intro T E hT hE)
   | (with_reducible refine stp2 ?_ ?_ <;> intro h)
   | with_reducible first | refine a0q rfl ?_ | refine a0t rfl (Nat.le_of_ble_eq_true rfl) a0s ?_ | refine a0t rfl (Nat.le_of_ble_eq_true rfl) (a0r (by simp [HPXB, a2d, fB, ext, upd, *])) ?_ | refine a1v (by decide) (by kernel_rfl) ?_ | refine a0x (by decide) ?_
   | (with_reducible refine Kont.go hK ?_; clear hK K)
   | ((with_reducible first | refine KT.go hT ?_ | refine KT.go hE ?_); clear hT hE T E)
   | simp [*, -List.all_flatten, -List.all_eq_true, DEFM, fB, a2e, a1u, a2d, hdN, a1i, a0w, a2g, a1m, a0y, a0z, a2n, a2o, a2p, anR, a6m, a6l, a3r, a4g, a3k, MG_t, MG_f, rmvs, a0j, a3c, a0h, a2r, a0b, a0e, FnD.row, Ins.row, b0p, a3k, b0w, b0v]
end Go.He
