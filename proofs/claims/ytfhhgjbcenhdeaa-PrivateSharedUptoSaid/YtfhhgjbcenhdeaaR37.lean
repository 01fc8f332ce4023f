/- Parts of the proof. -/
import Derived.Test.YtfhhgjbcenhdeaaR32
import Derived.Test.YtfhhgjbcenhdeaaR33
import Derived.Test.YtfhhgjbcenhdeaaR34
import Derived.Test.YtfhhgjbcenhdeaaR31
set_option linter.unusedSimpArgs false
set_option linter.unusedVariables false
namespace Go.He
open Go Go.FM Go.Gv Go.Proofs
set_option maxRecDepth 100000
set_option maxHeartbeats 40000000
theorem e7f {p : Pg} (hp : VOk p) {m : Bool} {fk : FuncId} (hCT : CT p m fk) (hfk : fnOk Try.prog fk = true) {B : Heap} {Y : Pts} {g : Bool} {f pc : Nat} (hf : f < p.funcs.length) {X : Ins} (hI : InsOk p p.funcs[f] X) (hy : Shp p Y) (hB : BsM p 3 B) (q18 : ¬ X.op = 18) (q21 : ¬ X.op = 21) (q22 : ¬ X.op = 22) (q23 : ¬ X.op = 23) (q24 : ¬ X.op = 24) (q3 : ¬ X.op = 3) (q19 : ¬ X.op = 19) (q20 : ¬ X.op = 20) (q25 : ¬ X.op = 25) (q33 : ¬ X.op = 33) (q35 : ¬ X.op = 35) (q34 : ¬ X.op = 34) (q36 : ¬ X.op = 36) (q47 : ¬ X.op = 47) (q38 : ¬ X.op = 38) (q48 : ¬ X.op = 48) (q51 : ¬ X.op = 51) (q26 : ¬ X.op = 26) (q28 : ¬ X.op = 28) (q31 : ¬ X.op = 31) (q27 : ¬ X.op = 27) (q29 : ¬ X.op = 29) (q32 : ¬ X.op = 32) : FCr Try.prog Gl 44 [.ptr [81] 8 0 0, .agg [.int .i64 (f : Int), .int .i64 (pc : Int)], .agg X.row, .clo fk [] [.ptr [88] 1 0 0]] (HP [] B (MF p Y g)) (OutT p m B (a3n p f pc X) Y g) := by
 have hsv := a2b hp
 have fB : ∀ r, B (3 :: r) = none := fun r => (hB Y g Y g hy hy).fb 3 r (by decide)
 have y3 := hy.rn
 have y4 := hy.cn
 have hrr := hp.regs (List.getElem_mem hf)
 obtain ⟨y1, y2⟩ := hy.at hf
 obtain ⟨nr, hnr⟩ : ∃ nr : Nat, p.funcs[f].regs = (nr : Int) := ⟨p.funcs[f].regs.toNat, by have := hrr.p0; have := hrr.p1; omega⟩
 rw [hnr, Int.toNat_natCast] at y2
 have hnr64 : nr <= 64 := by have := hrr.r64; omega
 have hIa := hI.a
 have hIb := hI.b
 have hIc := hI.c
 have hi1 : ∀ (L : List (FM.Loc × FO)) (Z : Pts) (h : Bool), inH (HP L B (MF p Z h)) [88] := fun L Z h => a8n
 have hi2 : ∀ (L : List (FM.Loc × FO)) (Z : Pts) (h : Bool), inH (HP L B (MF p Z h)) [81] := fun L Z h => a3p a3r
 have hi3 : ∀ (L : List (FM.Loc × FO)) (Z : Pts) (h : Bool), Shp p Z -> inH (HP L B (MF p Z h)) [83, f] := fun L Z h hZ => a3p (a4g (hZ.at hf).1)
 refine a4f (res := []) 16 210 [27, 63, 62, 183, 192, 191, 190] (fun d ix => 3 :: d :: ix) (fn := Try.f44) (by kernel_rfl) (by rfl) (by rfl) (by rfl) (by simp) (by decide) ?_
 repeat' first
  | ((with_reducible refine a1y (id := 24) fun K hK => ?_); refine a1k 3 ?_)
  | ((with_reducible refine a1y (id := 27) fun K hK => ?_); refine a1k 5 ?_)
  | ((with_reducible refine a1y (id := 31) fun K hK => ?_); refine a1k 5 ?_)
  | ((with_reducible refine a1y (id := 33) fun K hK => ?_); refine a1k 6 ?_)
  | ((with_reducible refine a1y (id := 36) fun K hK => ?_); refine a1k 5 ?_)
  | ((with_reducible refine a1y (id := 39) fun K hK => ?_); refine a1k 5 ?_)
  | ((with_reducible refine a1y (id := 41) fun K hK => ?_); refine a1k 5 ?_)
  | ((with_reducible refine a1y (id := 45) fun K hK => ?_); refine a1k 4 ?_)
  | (with_reducible refine a1z (id := 6) [] 7 a0k (by kernel_rfl) fun K hK => ?_)
  | (with_reducible refine a1z (id := 12) [] 8 a0k (by kernel_rfl) fun K hK => ?_)
  | (with_reducible refine a1z (id := 17) [] 16 a0k (by kernel_rfl) fun K hK => ?_)
  | (with_reducible refine a1z (id := 22) [] 11 a0k (by kernel_rfl) fun K hK => ?_)
  | (with_reducible refine a1z (id := 55) [] 12 a0k (by kernel_rfl) fun K hK => ?_)
  | (with_reducible refine a4v ?_)
  | ((with_reducible refine lfH ?_); refine a7d (j := 3) (hB _ _ _ _ hy hy) rfl ⟨rfl, Y, g, rfl, hy, TR.id (by simp [a3n, alO, *])⟩ trivial)
  | (with_reducible refine a5n ?_)
  | (with_reducible refine a7z ?_)
  | with_reducible first | refine a0p (id := 1) 9 a0k (by kernel_rfl) fun K hK => ?_ | refine a0p (id := 11) 6 a0k (by kernel_rfl) fun K hK => ?_ | refine stp ?_
  | (with_reducible refine stpK ?_; intro K hK)
  | (with_reducible refine stpC ?_; intro T E hT hE)
  | (with_reducible refine stp2 ?_ ?_ <;> intro h)
  | with_reducible first | refine a0q rfl ?_ | refine a0t rfl (Nat.le_of_ble_eq_true rfl) a0s ?_ | refine a0t rfl (Nat.le_of_ble_eq_true rfl) (a0r (by simp [HPXB, a2d, fB, ext, upd, *])) ?_ | refine a1v (by decide) (by kernel_rfl) ?_ | refine a0x (by decide) ?_
  | (with_reducible refine Kont.go hK ?_; clear hK K)
  | ((with_reducible first | refine KT.go hT ?_ | refine KT.go hE ?_); clear hT hE T E)
  | simp [*, -List.all_flatten, -List.all_eq_true, DEFM, fB, a2e, a1u, a2d, hdN, a1i, a0w, a2g, a1m, a0y, a0z, a2n, a2o, a2p, anR, a6m, a6l, a3r, a4g, a3k, MG_t, MG_f, rmvs, a0j, a3c, a0h, a2r, a0b, a0e, FnD.row, Ins.row, b0p, a3k, b0w, b0v]
theorem c_38 {p : Pg} (hp : VOk p) {m : Bool} {fk : FuncId} (hCT : CT p m fk) (hfk : fnOk Try.prog fk = true) {B : Heap} {Y : Pts} {g : Bool} {f pc : Nat} (hf : f < p.funcs.length) {X : Ins} (hI : InsOk p p.funcs[f] X) (hy : Shp p Y) (hB : BsM p 3 B) (q : X.op = 38) : FCr Try.prog Gl 44 [.ptr [81] 8 0 0, .agg [.int .i64 (f : Int), .int .i64 (pc : Int)], .agg X.row, .clo fk [] [.ptr [88] 1 0 0]] (HP [] B (MF p Y g)) (OutT p m B (a3n p f pc X) Y g) := by
 have hsv := a2b hp
 have fB : ∀ r, B (3 :: r) = none := fun r => (hB Y g Y g hy hy).fb 3 r (by decide)
 have y3 := hy.rn
 have y4 := hy.cn
 have hrr := hp.regs (List.getElem_mem hf)
 obtain ⟨y1, y2⟩ := hy.at hf
 obtain ⟨nr, hnr⟩ : ∃ nr : Nat, p.funcs[f].regs = (nr : Int) := ⟨p.funcs[f].regs.toNat, by have := hrr.p0; have := hrr.p1; omega⟩
 rw [hnr, Int.toNat_natCast] at y2
 have hnr64 : nr <= 64 := by have := hrr.r64; omega
 have hIa := hI.a
 have hIb := hI.b
 have hIc := hI.c
 have hi1 : ∀ (L : List (FM.Loc × FO)) (Z : Pts) (h : Bool), inH (HP L B (MF p Z h)) [88] := fun L Z h => a8n
 have hi2 : ∀ (L : List (FM.Loc × FO)) (Z : Pts) (h : Bool), inH (HP L B (MF p Z h)) [81] := fun L Z h => a3p a3r
 have hi3 : ∀ (L : List (FM.Loc × FO)) (Z : Pts) (h : Bool), Shp p Z -> inH (HP L B (MF p Z h)) [83, f] := fun L Z h hZ => a3p (a4g (hZ.at hf).1)
 have hb : isR p.funcs[f] X.b := a4l (r := (rR X.op).2.1) hIb (by rw [q]; decide)
 obtain ⟨b0, b1⟩ := id hb
 have bN : (X.b).toNat < nr := by omega
 have b2 : X.b < (nr : Int) := by omega
 have hbS := hy.rok hf hb
 have hx := hI.x38 q
 have hcR : isR p.funcs[f] X.c := a4l (r := (rR X.op).2.2) hIc (by rw [q]; decide)
 have wc : IntKind.wrap .i64 (X.c + 1) = X.c + 1 := by have := hcR.1; have := hcR.2; rw [IntKind.wrap_i64]; omega
 have hc1 : isR p.funcs[f] (X.c + 1) := ⟨by have := hcR.1; omega, by unfold W at hx; rw [wc] at hx; exact hx⟩
 refine a4f (res := []) 16 210 [27, 63, 62, 183, 192, 191, 190] (fun d ix => 3 :: d :: ix) (fn := Try.f44) (by kernel_rfl) (by rfl) (by rfl) (by rfl) (by simp) (by decide) ?_
 repeat' first
  | ((with_reducible refine a1y (id := 24) fun K hK => ?_); refine a1k 3 ?_)
  | ((with_reducible refine a1y (id := 27) fun K hK => ?_); refine a1k 5 ?_)
  | ((with_reducible refine a1y (id := 31) fun K hK => ?_); refine a1k 5 ?_)
  | ((with_reducible refine a1y (id := 33) fun K hK => ?_); refine a1k 6 ?_)
  | ((with_reducible refine a1y (id := 36) fun K hK => ?_); refine a1k 5 ?_)
  | ((with_reducible refine a1y (id := 39) fun K hK => ?_); refine a1k 5 ?_)
  | ((with_reducible refine a1y (id := 41) fun K hK => ?_); refine a1k 5 ?_)
  | ((with_reducible refine a1y (id := 45) fun K hK => ?_); refine a1k 4 ?_)
  | (with_reducible refine a1z (id := 6) [] 7 a0k (by kernel_rfl) fun K hK => ?_)
  | (with_reducible refine a1z (id := 12) [] 8 a0k (by kernel_rfl) fun K hK => ?_)
  | (with_reducible refine a1z (id := 17) [] 16 a0k (by kernel_rfl) fun K hK => ?_)
  | (with_reducible refine a1z (id := 22) [] 11 a0k (by kernel_rfl) fun K hK => ?_)
  | (with_reducible refine a1z (id := 55) [] 12 a0k (by kernel_rfl) fun K hK => ?_)
  | (with_reducible refine a4v ?_)
  | ((with_reducible refine mdH ?_); refine a3g (by kernel_rfl) (fun d hd => ?_) rfl (cl2M hCT hfk (a := X.b) (e := (X.c + 1)) (hf := hf) hy hB ?_ ?_ hnr ⟨?_, ?_, ?_⟩ hb hc1) ?_; (focus (cases hd; exact Nat.le_of_ble_eq_true rfl)); (focus rfl); (focus (first | rfl | (simp [ninL, ninO, a3m, nins, nin, a0e, a0i, a0a, a1d, a0c, a0b, a2c, mapO, a2f, a2g, a1i, a0w, hdN, *]; done))); (focus (simp [a2m, a2s]; done)); (focus (simp [a2m, a2s]; done)); (focus (simp [a2m, a2s]; done)); (rintro r' H' ⟨rfl, Z2, h2, rfl, hZ2, hT2⟩))
  | ((with_reducible refine lfH ?_); refine a7d (j := 3) (hB _ _ _ _ hy hZ2) rfl ⟨rfl, Z2, h2, rfl, hZ2, hT2.congr (fun z => by simp [a3n, q, alO, gsr, rdC, wrC])⟩ trivial)
  | (with_reducible refine a5n ?_)
  | (with_reducible refine a7z ?_)
  | with_reducible first | refine a0p (id := 1) 9 a0k (by kernel_rfl) fun K hK => ?_ | refine a0p (id := 11) 6 a0k (by kernel_rfl) fun K hK => ?_ | refine stp ?_
  | (with_reducible refine stpK ?_; intro K hK)
  | (with_reducible refine stpC ?_; intro T E hT hE)
  | (with_reducible refine stp2 ?_ ?_ <;> intro h)
  | with_reducible first | refine a0q rfl ?_ | refine a0t rfl (Nat.le_of_ble_eq_true rfl) a0s ?_ | refine a0t rfl (Nat.le_of_ble_eq_true rfl) (a0r (by simp [HPXB, a2d, fB, ext, upd, *])) ?_ | refine a1v (by decide) (by kernel_rfl) ?_ | refine a0x (by decide) ?_
  | (with_reducible refine Kont.go hK ?_; clear hK K)
  | ((with_reducible first | refine KT.go hT ?_ | refine KT.go hE ?_); clear hT hE T E)
  | simp [*, -List.all_flatten, -List.all_eq_true, DEFM, fB, a2e, a1u, a2d, hdN, a1i, a0w, a2g, a1m, a0y, a0z, a2n, a2o, a2p, anR, a6m, a6l, a3r, a4g, a3k, MG_t, MG_f, rmvs, a0j, a3c, a0h, a2r, a0b, a0e, FnD.row, Ins.row, b0p, a3k, b0w, b0v]
theorem c_25 {p : Pg} (hp : VOk p) {m : Bool} {fk : FuncId} (hCT : CT p m fk) (hfk : fnOk Try.prog fk = true) {B : Heap} {Y : Pts} {g : Bool} {f pc : Nat} (hf : f < p.funcs.length) {X : Ins} (hI : InsOk p p.funcs[f] X) (hy : Shp p Y) (hB : BsM p 3 B) (q : X.op = 25) : FCr Try.prog Gl 44 [.ptr [81] 8 0 0, .agg [.int .i64 (f : Int), .int .i64 (pc : Int)], .agg X.row, .clo fk [] [.ptr [88] 1 0 0]] (HP [] B (MF p Y g)) (OutT p m B (a3n p f pc X) Y g) := by
 have hsv := a2b hp
 have fB : ∀ r, B (3 :: r) = none := fun r => (hB Y g Y g hy hy).fb 3 r (by decide)
 have y3 := hy.rn
 have y4 := hy.cn
 have hrr := hp.regs (List.getElem_mem hf)
 obtain ⟨y1, y2⟩ := hy.at hf
 obtain ⟨nr, hnr⟩ : ∃ nr : Nat, p.funcs[f].regs = (nr : Int) := ⟨p.funcs[f].regs.toNat, by have := hrr.p0; have := hrr.p1; omega⟩
 rw [hnr, Int.toNat_natCast] at y2
 have hnr64 : nr <= 64 := by have := hrr.r64; omega
 have hIa := hI.a
 have hIb := hI.b
 have hIc := hI.c
 have hi1 : ∀ (L : List (FM.Loc × FO)) (Z : Pts) (h : Bool), inH (HP L B (MF p Z h)) [88] := fun L Z h => a8n
 have hi2 : ∀ (L : List (FM.Loc × FO)) (Z : Pts) (h : Bool), inH (HP L B (MF p Z h)) [81] := fun L Z h => a3p a3r
 have hi3 : ∀ (L : List (FM.Loc × FO)) (Z : Pts) (h : Bool), Shp p Z -> inH (HP L B (MF p Z h)) [83, f] := fun L Z h hZ => a3p (a4g (hZ.at hf).1)
 have ha : isR p.funcs[f] X.a := a4l (r := (rR X.op).1) hIa (by rw [q]; decide)
 obtain ⟨a0, a1⟩ := id ha
 have aN : (X.a).toNat < nr := by omega
 have a2 : X.a < (nr : Int) := by omega
 have haS := hy.rok hf ha
 have h0S : isR p.funcs[f] 0 := ⟨by omega, (hI.x25 q).2⟩
 refine a4f (res := []) 16 210 [27, 63, 62, 183, 192, 191, 190] (fun d ix => 3 :: d :: ix) (fn := Try.f44) (by kernel_rfl) (by rfl) (by rfl) (by rfl) (by simp) (by decide) ?_
 repeat' first
  | ((with_reducible refine a1y (id := 24) fun K hK => ?_); refine a1k 3 ?_)
  | ((with_reducible refine a1y (id := 27) fun K hK => ?_); refine a1k 5 ?_)
  | ((with_reducible refine a1y (id := 31) fun K hK => ?_); refine a1k 5 ?_)
  | ((with_reducible refine a1y (id := 33) fun K hK => ?_); refine a1k 6 ?_)
  | ((with_reducible refine a1y (id := 36) fun K hK => ?_); refine a1k 5 ?_)
  | ((with_reducible refine a1y (id := 39) fun K hK => ?_); refine a1k 5 ?_)
  | ((with_reducible refine a1y (id := 41) fun K hK => ?_); refine a1k 5 ?_)
  | ((with_reducible refine a1y (id := 45) fun K hK => ?_); refine a1k 4 ?_)
  | (with_reducible refine a1z (id := 6) [] 7 a0k (by kernel_rfl) fun K hK => ?_)
  | (with_reducible refine a1z (id := 12) [] 8 a0k (by kernel_rfl) fun K hK => ?_)
  | (with_reducible refine a1z (id := 17) [] 16 a0k (by kernel_rfl) fun K hK => ?_)
  | (with_reducible refine a1z (id := 22) [] 11 a0k (by kernel_rfl) fun K hK => ?_)
  | (with_reducible refine a1z (id := 55) [] 12 a0k (by kernel_rfl) fun K hK => ?_)
  | (with_reducible refine a4v ?_)
  | ((with_reducible refine mdH ?_); refine a3g (by kernel_rfl) (fun d hd => ?_) rfl (cl1M hCT hfk (a := 0) (e := X.a) (hf := hf) hy hB ?_ ?_ hnr ⟨?_, ?_, ?_⟩ h0S ha) ?_; (focus (cases hd; exact Nat.le_of_ble_eq_true rfl)); (focus rfl); (focus (first | rfl | (simp [ninL, ninO, a3m, nins, nin, a0e, a0i, a0a, a1d, a0c, a0b, a2c, mapO, a2f, a2g, a1i, a0w, hdN, *]; done))); (focus (simp [a2m, a2s]; done)); (focus (simp [a2m, a2s]; done)); (focus (simp [a2m, a2s]; done)); (rintro r' H' ⟨rfl, Z2, h2, rfl, hZ2, hT2⟩))
  | ((with_reducible refine lfH ?_); refine a7d (j := 3) (hB _ _ _ _ hy hZ2) rfl ⟨rfl, Z2, h2, rfl, hZ2, hT2.congr (fun z => by simp [a3n, q, alO, gsr, rdC, wrC, gs0])⟩ trivial)
  | (with_reducible refine a5n ?_)
  | (with_reducible refine a7z ?_)
  | with_reducible first | refine a0p (id := 1) 9 a0k (by kernel_rfl) fun K hK => ?_ | refine a0p (id := 11) 6 a0k (by kernel_rfl) fun K hK => ?_ | refine stp ?_
  | (with_reducible refine stpK ?_; intro K hK)
  | (with_reducible refine stpC ?_; intro T E hT hE)
  | (with_reducible refine stp2 ?_ ?_ <;> intro h)
  | with_reducible first | refine a0q rfl ?_ | refine a0t rfl (Nat.le_of_ble_eq_true rfl) a0s ?_ | refine a0t rfl (Nat.le_of_ble_eq_true rfl) (a0r (by simp [HPXB, a2d, fB, ext, upd, *])) ?_ | refine a1v (by decide) (by kernel_rfl) ?_ | refine a0x (by decide) ?_
  | (with_reducible refine Kont.go hK ?_; clear hK K)
  | ((with_reducible first | refine KT.go hT ?_ | refine KT.go hE ?_); clear hT hE T E)
  | simp [*, -List.all_flatten, -List.all_eq_true, DEFM, fB, a2e, a1u, a2d, hdN, a1i, a0w, a2g, a1m, a0y, a0z, a2n, a2o, a2p, anR, a6m, a6l, a3r, a4g, a3k, MG_t, MG_f, rmvs, a0j, a3c, a0h, a2r, a0b, a0e, FnD.row, Ins.row, b0p, a3k, b0w, b0v]
theorem e8z {p : Pg} (hp : VOk p) {m : Bool} {fk : FuncId} (hCT : CT p m fk) (hfk : fnOk Try.prog fk = true) {B : Heap} {Y : Pts} {g : Bool} {f pc : Nat} (hf : f < p.funcs.length) {X : Ins} (hI : InsOk p p.funcs[f] X) (hy : Shp p Y) (hB : BsM p 3 B) : FCr Try.prog Gl 44 [.ptr [81] 8 0 0, .agg [.int .i64 (f : Int), .int .i64 (pc : Int)], .agg X.row, .clo fk [] [.ptr [88] 1 0 0]] (HP [] B (MF p Y g)) (OutT p m B (a3n p f pc X) Y g) := by
 by_cases q18 : X.op = 18
 . exact c_18 hp hCT hfk hf hI hy hB q18
 by_cases q21 : X.op = 21
 . exact e7i hp hCT hfk hf hI hy hB (.inl q21)
 by_cases q22 : X.op = 22
 . exact e7i hp hCT hfk hf hI hy hB (.inr (.inl q22))
 by_cases q23 : X.op = 23
 . exact e7i hp hCT hfk hf hI hy hB (.inr (.inr q23))
 by_cases q24 : X.op = 24
 . exact c_24 hp hCT hfk hf hI hy hB q24
 by_cases q3 : X.op = 3
 . exact c_f3 hp hCT hfk hf hI hy hB (.inl q3)
 by_cases q19 : X.op = 19
 . exact c_f3 hp hCT hfk hf hI hy hB (.inr (.inl q19))
 by_cases q20 : X.op = 20
 . exact c_f3 hp hCT hfk hf hI hy hB (.inr (.inr q20))
 by_cases q25 : X.op = 25
 . exact c_25 hp hCT hfk hf hI hy hB q25
 by_cases q33 : X.op = 33
 . exact f5j hp hCT hfk hf hI hy hB (.inl q33)
 by_cases q35 : X.op = 35
 . exact f5j hp hCT hfk hf hI hy hB (.inr q35)
 by_cases q34 : X.op = 34
 . exact e7g hp hCT hfk hf hI hy hB (.inl q34)
 by_cases q36 : X.op = 36
 . exact e7g hp hCT hfk hf hI hy hB (.inr (.inl q36))
 by_cases q47 : X.op = 47
 . exact e7g hp hCT hfk hf hI hy hB (.inr (.inr q47))
 by_cases q38 : X.op = 38
 . exact c_38 hp hCT hfk hf hI hy hB q38
 by_cases q48 : X.op = 48
 . by_cases h0 : 0 <= X.a
   . exact g3i hp hCT hfk hf hI hy hB q48 h0
   . exact g3j hp hCT hfk hf hI hy hB q48 h0
 by_cases q51 : X.op = 51
 . by_cases h1 : X.b = 1
   . exact g3g hp hCT hfk hf hI hy hB q51 h1
   . by_cases h0 : 0 <= X.c
     . exact g3f hp hCT hfk hf hI hy hB q51 h1 h0
     . exact g3h hp hCT hfk hf hI hy hB q51 h1 h0
 by_cases q26 : X.op = 26
 . exact c_26 hp hCT hfk hf hI hy hB q26
 by_cases q28 : X.op = 28
 . exact c_28 hp hCT hfk hf hI hy hB q28
 by_cases q31 : X.op = 31
 . exact c_31 hp hCT hfk hf hI hy hB q31
 by_cases q27 : X.op = 27
 . exact e7h hp hCT hfk hf hI hy hB (.inl q27)
 by_cases q29 : X.op = 29
 . exact e7h hp hCT hfk hf hI hy hB (.inr (.inl q29))
 by_cases q32 : X.op = 32
 . exact e7h hp hCT hfk hf hI hy hB (.inr (.inr q32))
 exact e7f hp hCT hfk hf hI hy hB q18 q21 q22 q23 q24 q3 q19 q20 q25 q33 q35 q34 q36 q47 q38 q48 q51 q26 q28 q31 q27 q29 q32
theorem g2y {p : Pg} (hp : VOk p) {m : Bool} {fk : FuncId} (hCT : CT p m fk) (hfk : fnOk Try.prog fk = true) {B : Heap} {L : List (FM.Loc × FO)} {Y : Pts} {g : Bool} {i j : Nat} (hi : i < p.funcs.length) (hj : j < p.funcs[i].code.length) (hy : Shp p Y) (hB : BsM p 4 B) (hl : hdN 4 (L.map Prod.fst) = true) (hn : ninL (inH (HP L B (MF p Y g))) L) :
 FCr Try.prog Gl 44 [.ptr [81] 8 0 0, .agg [.int .i64 (i : Int), .int .i64 (j : Int)], .agg p.funcs[i].code[j].row, .clo fk [] [.ptr [88] 1 0 0]] (HP [] (updL L B) (MF p Y g)) (OutT p m (updL L B) (a3n p i j p.funcs[i].code[j]) Y g) := e8z hp hCT hfk hi (hp.ins _ (List.getElem_mem hi) _ (List.getElem_mem hj)) hy (hB.call 3 (by decide) hy hl hn)
def cdP (p : Pg) (i j : Nat) (z : Pts) : Prop := ∀ i' (h : i' < p.funcs.length) j' (h' : j' < p.funcs[i'].code.length), i' < i \/ (i' = i /\ j' < j) -> a3n p i' j' p.funcs[i'].code[j'] z
theorem g3e (p : Pg) (z : Pts) : cdP p 0 0 z := fun _ _ _ _ h => by omega
theorem g3b {p : Pg} {i j : Nat} (hi : i < p.funcs.length) (hj : j < p.funcs[i].code.length) (z : Pts) : cdP p i (j + 1) z ↔ cdP p i j z /\ a3n p i j p.funcs[i].code[j] z := by
 constructor
 . intro h; exact ⟨fun i' h1 j' h2 h3 => h i' h1 j' h2 (by omega), h i hi j hj (.inr ⟨rfl, by omega⟩)⟩
 . rintro ⟨h1, h2⟩ i' h3 j' h4 h5
   by_cases e : i' = i /\ j' = j
   . obtain ⟨rfl, rfl⟩ := e; exact h2
   . exact h1 i' h3 j' h4 (by omega)
theorem g3c {p : Pg} {i : Nat} (hi : i < p.funcs.length) (z : Pts) : cdP p (i + 1) 0 z ↔ cdP p i p.funcs[i].code.length z := by
 constructor
 . intro h i' h1 j' h2 h3; exact h i' h1 j' h2 (by omega)
 . intro h i' h1 j' h2 h3
   by_cases e : i' = i
   . subst e; exact h i' h1 j' h2 (.inr ⟨rfl, h2⟩)
   . exact h i' h1 j' h2 (by omega)
theorem g3d {p : Pg} (z : Pts) : a5q p z ↔ cdP p p.funcs.length 0 z :=
 ⟨fun h i hi j hj _ => h i hi j hj, fun h i hi j hj => h i hi j hj (.inl hi)⟩
theorem TR.stepc {m : Bool} {C C' D : Pts -> Prop} {Y Z Z2 : Pts} {g h h2 : Bool} (H : TR m C C Y g Z h) (hT : TR m D D Z h Z2 h2) (hk : ∀ z, C' z ↔ C z /\ D z) : TR m C' C' Y g Z2 h2 := (H.comp hT).congr hk
theorem c1u {p : Pg} (hp : VOk p) {m : Bool} {fk : FuncId} (hCT : CT p m fk) (hfk : fnOk Try.prog fk = true) {B : Heap} {Y : Pts} {g : Bool} (hy : Shp p Y) (hB : BsM p 4 B) : FCr Try.prog Gl 30 [.ptr [81] 8 0 0, .clo fk [] [.ptr [88] 1 0 0]] (HP [] B (MF p Y g)) (OutT p m B (a5q p) Y g) := by
 have hsv := a2b hp
 have fB : ∀ r, B (4 :: r) = none := fun r => (hB Y g Y g hy hy).fb 4 r (by decide)
 have y3 := hy.rn
 have hi1 : ∀ (L : List (FM.Loc × FO)) (Z : Pts) (h : Bool), inH (HP L B (MF p Z h)) [88] := fun L Z h => a8n
 have hi2 : ∀ (L : List (FM.Loc × FO)) (Z : Pts) (h : Bool), inH (HP L B (MF p Z h)) [81] := fun L Z h => a3p a3r
 refine a4f (res := []) 8 36 [14, 13, 12, 22, 21, 20] (fun d ix => 4 :: d :: ix) (fn := Try.f30) (by kernel_rfl) (by rfl) (by rfl) (by rfl) (by simp) (by decide) ?_
 repeat' first
  | ((with_reducible refine a1y (id := 6) fun K hK => ?_); refine a1k 6 ?_)
  | ((with_reducible refine a1o ?_); refine a2h (σ := {x : Nat × (Pts × Bool) // x.1 <= p.funcs.length /\ Shp p x.2.1 /\ TR m (cdP p x.1 0) (cdP p x.1 0) Y g x.2.1 x.2.2}) (fun y => [(4, .undef), (5, .undef), (6, .undef), (7, .undef)]) [13, 12] (fun y => [(14, .int .i64 (y.1.1 : Int))]) [[4, 5], [4, 7]] (fun y => []) (fun y => MF p y.1.2.1 y.1.2.2) (fun y => p.funcs.length - y.1.1) ⟨(0, (Y, g)), Nat.zero_le _, hy, TR.id (g3e _ _)⟩ (gk3i (j := 4) [] (hB _ _ _ _ hy hy) ?_ ?_ ?_ ?_ ?_ ?_ ?_) ?_; (iterate 7 (focus (first | rfl | (simp [LPXB, *, SIMB, hdN, injB, fB, a2e, a1u, a2d, hdN, a1i, a0w, a2g]; done)))); rintro ⟨⟨i, ⟨Z, u⟩⟩, hi, hZ, hT1⟩; simp only [lpS, LPXB]; (try dsimp only at hi hZ hT1); have z3 := hZ.rn; rcases a1l hi with hlt | ⟨hlt, he⟩; rotate_left; subst i; rotate_left; have wi := wli hlt (by have := hp.nf; omega); have hcv := b8v hp hlt)
  | ((with_reducible refine a1o ?_); refine a2h (σ := {x : Nat × (Pts × Bool) // x.1 <= (p.funcs[i]'hlt).code.length /\ Shp p x.2.1 /\ TR m (cdP p i x.1) (cdP p i x.1) Y g x.2.1 x.2.2}) (fun y => [(6, .undef), (7, .undef)]) [21, 20, 14, 13, 12] (fun y => [(22, .int .i64 (y.1.1 : Int))]) [[4, 7]] (fun y => []) (fun y => MF p y.1.2.1 y.1.2.2) (fun y => (p.funcs[i]'hlt).code.length - y.1.1) ⟨(0, (Z, u)), Nat.zero_le _, hZ, hT1⟩ (gk3i (j := 4) [] (hB _ _ _ _ hy hZ) ?_ ?_ ?_ ?_ ?_ ?_ ?_) ?_; (iterate 7 (focus (first | rfl | (simp [LPXB, *, SIMB, hdN, injB, fB, a2e, a1u, a2d, hdN, a1i, a0w, a2g]; done)))); rintro ⟨⟨j, ⟨V, v⟩⟩, hj, hV, hT2⟩; simp only [lpS, LPXB]; (try dsimp only at hj hV hT2); have v3 := hV.rn; rcases a1l hj with hlk | ⟨hlk, he⟩; rotate_left; subst j; rotate_left; have wk := wli hlk (by omega))
  | ((with_reducible refine mdH ?_); refine a3g (by kernel_rfl) (fun d hd => ?_) rfl (g2y hp hCT hfk hlt hlk hV hB ?_ ?_) ?_; (focus (cases hd; exact Nat.le_of_ble_eq_true rfl)); (focus rfl); (focus (first | rfl | (simp [ninL, ninO, a3m, nins, nin, a0e, a0i, a0a, a1d, a0c, a0b, a2c, mapO, a2f, a2g, a1i, a0w, hdN, *]; done))); (rintro r' H' ⟨rfl, V2, v2_, rfl, hV2, hT4⟩))
  | ((with_reducible refine a1j ?_); refine a1w (⟨(j + 1, (V2, v2_)), by omega, hV2, TR.stepc hT2 hT4 (g3b hlt hlk)⟩) (gk3i (j := 4) [] (hB _ _ _ _ hy hV2) ?_ ?_ ?_ ?_ ?_ ?_ ?_) ?_; (iterate 7 (focus (first | rfl | (simp [LPXB, *, SIMB, hdN, injB, fB, a2e, a1u, a2d, hdN, a1i, a0w, a2g]; done)))); (focus (dsimp only; omega)))
  | ((with_reducible refine a1j ?_); refine a1w (⟨(i + 1, (V, v)), by omega, hV, hT2.congr (g3c hlt)⟩) (gk3i (j := 4) [] (hB _ _ _ _ hy hV) ?_ ?_ ?_ ?_ ?_ ?_ ?_) ?_; (iterate 7 (focus (first | rfl | (simp [LPXB, *, SIMB, hdN, injB, fB, a2e, a1u, a2d, hdN, a1i, a0w, a2g]; done)))); (focus (dsimp only; omega)))
  | ((with_reducible refine lfH ?_); refine a7d (j := 4) (hB _ _ _ _ hy hZ) rfl ⟨rfl, Z, u, rfl, hZ, hT1.congr g3d⟩ trivial)
  | (with_reducible refine a5n ?_)
  | (with_reducible refine a7z ?_)
  | with_reducible refine stp ?_
  | (with_reducible refine stpK ?_; intro K hK)
  | (with_reducible refine stpC ?_; intro T E hT hE)
  | (with_reducible refine stp2 ?_ ?_ <;> intro h)
  | with_reducible first | refine a0q rfl ?_ | refine a0t rfl (Nat.le_of_ble_eq_true rfl) a0s ?_ | refine a0t rfl (Nat.le_of_ble_eq_true rfl) (a0r (by simp [HPXB, a2d, fB, ext, upd, *])) ?_ | refine a1v (by decide) (by kernel_rfl) ?_ | refine a0x (by decide) ?_
  | (with_reducible refine Kont.go hK ?_; clear hK K)
  | ((with_reducible first | refine KT.go hT ?_ | refine KT.go hE ?_); clear hT hE T E)
  | simp [*, -List.all_flatten, -List.all_eq_true, DEFM, fB, a2e, a1u, a2d, hdN, a1i, a0w, a2g, a1m, a0y, a0z, a2n, a2o, a2p, anR, a6m, a6l, a3r, a4g, a3k, MG_t, MG_f, rmvs, a0j, a3c, a0h, a2r, a0b, a0e, FnD.row, Ins.row, a3k]
theorem c5k {p : Pg} (hp : VOk p) : PC Try.prog Gl 43 [.agg [.list 4 (fns p.funcs), .list 2 (gbs p.globals), .list 1 (lays p.layouts), .int .i64 p.main]] (.list 2 (sits (a0d p))) := by
 refine a3w (res := [.tmp 2]) 8 42 [13, 12, 11, 21, 20, 19, 27] (fun d ix => 0 :: d :: ix) (fn := Try.f43) (by kernel_rfl) (by rfl) (by rfl) (by rfl) (by simp) (by decide) ?_
 repeat' first
  | ((with_reducible refine a1o ?_); refine a2h (σ := {i : Nat // i <= p.funcs.length}) (fun y => [(4, .undef), (5, .undef), (6, .undef), (7, .undef), (3, .sl [0, 1000] 2 0 (sitP p.funcs y.1).length)]) [12, 11] (fun y => [(13, .int .i64 (y.1 : Int))]) [[0, 5], [0, 7], [0, 9]] (fun y => [([0, 1000], .cells 50 2 (sits (sitP p.funcs y.1)))]) (fun y => noH) (fun y => p.funcs.length - y.1) ⟨0, by simp⟩ (gk3 (j := 0) [] (Bs.pc _) ?_ ?_ ?_ ?_ ?_ ?_ ?_) ?_; (iterate 7 (focus (first | rfl | (simp [LPXB, *, SIMB, hdN, injB, e0s, sits, a8a]; done)))); rintro ⟨i, hi⟩; simp only [lpS, LPXB]; (try dsimp only at hi); rcases a1l hi with hlt | ⟨hlt, rfl⟩; have wi := wli hlt (by have := hp.nf; omega); have hc := b8v hp hlt; have hz := c1x p.funcs i; rotate_left; have e : a0d p = sitP p.funcs p.funcs.length := rfl; have hl := d1a hp (Nat.le_refl _); rotate_left)
  | ((with_reducible refine a1o ?_); refine a2h (σ := {j : Nat // j <= (p.funcs[i]'hlt).code.length}) (fun y => [(6, .undef), (7, .undef), (3, .sl [0, 1000] 2 0 (sit2 p.funcs i y.1).length)]) [20, 19, 13, 12, 11] (fun y => [(21, .int .i64 (y.1 : Int))]) [[0, 7]] (fun y => [([0, 1000], .cells 50 2 (sits (sit2 p.funcs i y.1)))]) (fun y => noH) (fun y => (p.funcs[i]'hlt).code.length - y.1) ⟨0, by simp⟩ (gk3 (j := 0) [] (Bs.pc _) ?_ ?_ ?_ ?_ ?_ ?_ ?_) ?_; (iterate 7 (focus (first | rfl | (simp [LPXB, *, SIMB, hdN, injB, c1x]; done)))); rintro ⟨j, hj⟩; simp only [lpS, LPXB]; (try dsimp only at hj); rcases a1l hj with hlk | ⟨hlk, rfl⟩; have wk := wli hlk (by omega); have hl := e0t hp hlt hj; have hs := szn (n := (sit2 p.funcs i j).length + 1) (k := 16) (by omega) (by decide); have hs2 : (sit2 p.funcs i j).length + 1 <= 4611686018427387904 := (by omega); rcases c3d ((p.funcs[i]'hlt).code[j]'hlk).op with ⟨q1, hac⟩ | ⟨q1, q2, hac⟩ | ⟨q1, q2, q3, hac⟩ | ⟨q1, q2, q3, q4, hac⟩ | ⟨q1, q2, q3, q4, hac⟩; rotate_right; have hen := c5w hlt; rotate_left)
  | ((with_reducible refine a1j ?_); refine a1w (⟨j + 1, by omega⟩) (gk3 (j := 0) [] (Bs.pc _) ?_ ?_ ?_ ?_ ?_ ?_ ?_) ?_; (iterate 7 (focus (have e := d1c hlt hlk hac; first | rfl | (simp [LPXB, *, SIMB, hdN, injB]; done)))); (focus (dsimp only; omega)))
  | ((with_reducible refine a1j ?_); refine a1w (⟨j + 1, by omega⟩) (gk3 (j := 0) [] (Bs.pc _) ?_ ?_ ?_ ?_ ?_ ?_ ?_) ?_; (iterate 7 (focus (have e := c5v hlt hlk hac; first | rfl | (simp [LPXB, *, SIMB, hdN, injB]; done)))); (focus (dsimp only; omega)))
  | ((with_reducible refine a1j ?_); refine a1w (⟨i + 1, by omega⟩) (gk3 (j := 0) [] (Bs.pc _) ?_ ?_ ?_ ?_ ?_ ?_ ?_) ?_; (iterate 7 (focus (first | rfl | (simp [LPXB, *, SIMB, hdN, injB]; done)))); (focus (dsimp only; omega)))
  | with_reducible refine stp ?_
  | (with_reducible refine stpK ?_; intro K hK)
  | (with_reducible refine stpC ?_; intro T E hT hE)
  | (with_reducible refine stp2 ?_ ?_ <;> intro h)
  | with_reducible first | refine a0q rfl ?_ | refine a0t rfl (Nat.le_of_ble_eq_true rfl) a0s ?_ | refine a0t rfl (Nat.le_of_ble_eq_true rfl) (a0r (by simp [HPXB, ext, upd, *])) ?_ | refine a1v (by decide) (by kernel_rfl) ?_ | refine a0x (by decide) ?_
  | (with_reducible refine Kont.go hK ?_; clear hK K)
  | ((with_reducible first | refine KT.go hT ?_ | refine KT.go hE ?_); clear hT hE T E)
  | simp [*, -List.all_flatten, -List.all_eq_true, DEFB, LENB, List.take_length, a9p, asR]
theorem d6m {a b : List (Int × Int)} (hl : ¬ a.length = b.length) : PC Try.prog Gl 28 [.list 2 (sits a), .list 2 (sits b)] (.bool (decide (a = b))) := by
 have hne : ¬ a = b := fun h => hl (by rw [h])
 have hl' : ¬ (a.length : Int) = (b.length : Int) := by omega
 refine a3w (res := [.tmp 4]) 6 26 [13, 12] (fun d ix => 0 :: d :: ix) (fn := Try.f28) (by kernel_rfl) (by rfl) (by rfl) (by rfl) (by simp) (by decide) ?_
 repeat' first
  | with_reducible first | refine a0p (id := 6) 9 a0k (by kernel_rfl) fun K hK => ?_ | refine stp ?_
  | (with_reducible refine stpK ?_; intro K hK)
  | (with_reducible refine stpC ?_; intro T E hT hE)
  | (with_reducible refine stp2 ?_ ?_ <;> intro h)
  | with_reducible first | refine a0q rfl ?_ | refine a0t rfl (Nat.le_of_ble_eq_true rfl) a0s ?_ | refine a0t rfl (Nat.le_of_ble_eq_true rfl) (a0r (by simp [HPXB, ext, upd, *])) ?_ | refine a1v (by decide) (by kernel_rfl) ?_ | refine a0x (by decide) ?_
  | (with_reducible refine Kont.go hK ?_; clear hK K)
  | ((with_reducible first | refine KT.go hT ?_ | refine KT.go hE ?_); clear hT hE T E)
  | simp [*, -List.all_flatten, -List.all_eq_true, DEFB, LENB, a5s, eqV, a5e, a8a]
theorem d6l {a b : List (Int × Int)} (ha : a.length <= 2000000) (hl : a.length = b.length) : PC Try.prog Gl 28 [.list 2 (sits a), .list 2 (sits b)] (.bool (decide (a = b))) := by
 refine a3w (res := [.tmp 4]) 6 26 [13, 12] (fun d ix => 0 :: d :: ix) (fn := Try.f28) (by kernel_rfl) (by rfl) (by rfl) (by rfl) (by simp) (by decide) ?_
 repeat' first
  | ((with_reducible refine a1o ?_); refine a2h (σ := {i : Nat // i <= a.length /\ eqL a b i}) (fun y => [(5, .undef)]) [12] (fun y => [(13, .int .i64 (y.1 : Int))]) [] (fun y => []) (fun y => noH) (fun y => a.length - y.1) ⟨0, by simp, d4i _ _⟩ (gk3 (j := 0) [] (Bs.pc _) ?_ ?_ ?_ ?_ ?_ ?_ ?_) ?_; (iterate 7 (focus (first | rfl | (simp [LPXB, *, SIMB, hdN, injB]; done)))); rintro ⟨i, hi, hk⟩; simp only [lpS, LPXB]; (try dsimp only at hi hk); rcases a1l hi with hlt | ⟨hlt, rfl⟩; have wi := wli hlt (Nat.le_trans ha (by decide)); have g1 : i < b.length := (by omega); by_cases c1 : (a[i]'hlt) = (b[i]'g1); rotate_left; have c1' := c0d c1; have c1'' := b5z c1; rotate_right)
  | ((with_reducible refine a1j ?_); refine a1w (⟨i + 1, by omega, d4h hk hlt g1 c1⟩) (gk3 (j := 0) [] (Bs.pc _) ?_ ?_ ?_ ?_ ?_ ?_ ?_) ?_; (iterate 7 (focus (first | rfl | (simp [LPXB, *, SIMB, hdN, injB]; done)))); (focus (dsimp only; omega)))
  | with_reducible first | refine a0p (id := 6) 9 a0k (by kernel_rfl) fun K hK => ?_ | refine stp ?_
  | (with_reducible refine stpK ?_; intro K hK)
  | (with_reducible refine stpC ?_; intro T E hT hE)
  | (with_reducible refine stp2 ?_ ?_ <;> intro h)
  | with_reducible first | refine a0q rfl ?_ | refine a0t rfl (Nat.le_of_ble_eq_true rfl) a0s ?_ | refine a0t rfl (Nat.le_of_ble_eq_true rfl) (a0r (by simp [HPXB, ext, upd, *])) ?_ | refine a1v (by decide) (by kernel_rfl) ?_ | refine a0x (by decide) ?_
  | (with_reducible refine Kont.go hK ?_; clear hK K)
  | ((with_reducible first | refine KT.go hT ?_ | refine KT.go hE ?_); clear hT hE T E)
  | simp [*, -List.all_flatten, -List.all_eq_true, DEFB, LENB, a5s, eqV, a5e, a8a]
 all_goals first
  | (simp [e5m hlt g1 c1]; done)
  | (simp [b7x hl hk]; done)
  | trace_state
theorem b5u {a b : List (Int × Int)} (ha : a.length <= 2000000) : PC Try.prog Gl 28 [.list 2 (sits a), .list 2 (sits b)] (.bool (decide (a = b))) := by
 by_cases hl : a.length = b.length
 . exact d6l ha hl
 . exact d6m hl
end Go.He
