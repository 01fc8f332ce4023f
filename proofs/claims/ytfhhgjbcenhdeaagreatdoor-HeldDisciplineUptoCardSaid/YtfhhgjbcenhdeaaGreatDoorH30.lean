/- Parts of the proof. -/
import Derived.Test.YtfhhgjbcenhdeaaGreatDoorH23
set_option linter.unusedSimpArgs false
set_option linter.unusedVariables false
namespace Go.Je
open Go Go.FM Go.Gv Go.Proofs
set_option maxRecDepth 100000
set_option maxHeartbeats 40000000
theorem h0s {p : Pg} (hp : VOk p) {m : Bool} {fk : FuncId} (hCT : CT p m fk) (hfk : fnOk Tryz.prog fk = true) {B : Heap} {Y : Pts} {g : Bool} {f pc : Nat} (hf : f < p.funcs.length) {X : Ins} (hI : InsOk p p.funcs[f] X) (hy : Shp p Y) (hB : BsM p 3 B) (q : X.op = 51) (h1 : ¬ X.b = 1) (h0 : 0 <= X.c) : FCr Tryz.prog Gl 141 [.ptr [81] 8 0 0, .agg [.int .i64 (f : Int), .int .i64 (pc : Int)], .agg X.row, .clo fk [] [.ptr [88] 1 0 0]] (HP [] B (MF p Y g)) (OutT p m B (a3z p f pc X) Y g) := by
 have hsv := a3v hp
 have fB : ∀ r, B (3 :: r) = none := fun r => (hB Y g Y g hy hy).fb 3 r (by decide)
 have y3 := hy.rn
 have y4 := hy.cn
 have hrr := hp.regs (List.getElem_mem hf)
 obtain ⟨y1, y2⟩ := hy.at hf
 obtain ⟨nr, hnr⟩ : ∃ nr : Nat, p.funcs[f].regs = (nr : Int) := ⟨p.funcs[f].regs.toNat, by have := hrr.p0; have := hrr.p1; omega⟩
 rw [hnr, Int.toNat_natCast] at y2
 have hnr64 : nr <= 64 := by have := hrr.r64; omega
 have hIa := hI.a
 have hIb := hI.b
 have hIc := hI.c
 have hi1 : ∀ (L : List (FM.Loc × FO)) (Z : Pts) (h : Bool), inH (HP L B (MF p Z h)) [88] := fun L Z h => a7u
 have hi2 : ∀ (L : List (FM.Loc × FO)) (Z : Pts) (h : Bool), inH (HP L B (MF p Z h)) [81] := fun L Z h => a3s a3y
 have hi3 : ∀ (L : List (FM.Loc × FO)) (Z : Pts) (h : Bool), Shp p Z -> inH (HP L B (MF p Z h)) [83, f] := fun L Z h hZ => a3s (a4f (hZ.at hf).1)
 have hcc := hI.c
 rw [q] at hcc
 have hcc := e1p (show opR p p.funcs[f] X 99 X.c = true from hcc)
 have ha : isR p.funcs[f] X.a := a4n (r := (rR X.op).1) hIa (by rw [q]; decide)
 obtain ⟨a0, a1⟩ := id ha
 have aN : (X.a).toNat < nr := by omega
 have a2 : X.a < (nr : Int) := by omega
 have haS := hy.rok hf ha
 have hc : isR p.funcs[f] X.c := show isR p.funcs[f] X.c from ⟨h0, hcc.1⟩
 obtain ⟨c0, c1⟩ := id hc
 have cN : (X.c).toNat < nr := by omega
 have c2 : X.c < (nr : Int) := by omega
 have hcS := hy.rok hf hc
 refine a4b (res := []) 16 210 [27, 63, 62, 183, 192, 191, 190] (fun d ix => 3 :: d :: ix) (fn := Tryz.f141) (by kernel_rfl) (by rfl) (by rfl) (by rfl) (by simp) (by decide) ?_
 repeat' first
  | ((with_reducible refine a1z (id := 24) fun K hK => ?_); refine a1i 3 ?_)
  | ((with_reducible refine a1z (id := 27) fun K hK => ?_); refine a1i 5 ?_)
  | ((with_reducible refine a1z (id := 31) fun K hK => ?_); refine a1i 5 ?_)
  | ((with_reducible refine a1z (id := 33) fun K hK => ?_); refine a1i 6 ?_)
  | ((with_reducible refine a1z (id := 36) fun K hK => ?_); refine a1i 5 ?_)
  | ((with_reducible refine a1z (id := 39) fun K hK => ?_); refine a1i 5 ?_)
  | ((with_reducible refine a1z (id := 41) fun K hK => ?_); refine a1i 5 ?_)
  | ((with_reducible refine a1z (id := 45) fun K hK => ?_); refine a1i 4 ?_)
  | with_reducible first | refine a2b (id := 6) [] 7 a1v (by kernel_rfl) fun K hK => ?_ | refine a2b (id := 12) [] 8 a1v (by kernel_rfl) fun K hK => ?_ | refine a2b (id := 17) [] 16 a1v (by kernel_rfl) fun K hK => ?_ | refine a2b (id := 22) [] 11 a1v (by kernel_rfl) fun K hK => ?_ | refine a2b (id := 55) [] 12 a1v (by kernel_rfl) fun K hK => ?_ | refine a4q ?_
  | ((with_reducible refine mdH ?_); refine a3n (by kernel_rfl) (fun d hd => ?_) rfl (cl1M hCT hfk (a := X.a) (e := X.c) (hf := hf) hy hB ?_ ?_ hnr ⟨?_, ?_, ?_⟩ ha hc) ?_; (focus (cases hd; exact Nat.le_of_ble_eq_true rfl)); (focus rfl); (focus (first | rfl | (simp [ninL, ninO, a3o, nins, nin, a0d, a0g, a0a, a1k, a0c, a0b, a2j, mapO, a2m, a2h, a1h, a0v, hdN, *]; done))); (focus (simp [a1w, a2d]; done)); (focus (simp [a1w, a2d]; done)); (focus (simp [a1w, a2d]; done)); (rintro r' H' ⟨rfl, Z2, h2, rfl, hZ2, hT2⟩))
  | ((with_reducible refine lfH ?_); refine a7g (j := 3) (hB _ _ _ _ hy hZ2) rfl ⟨rfl, Z2, h2, rfl, hZ2, hT2.congr (fun z => by simp [a3z, q, alO, gsr, rdC, wrC, h0, h1])⟩ trivial)
  | with_reducible first | refine a4y ?_ | refine a7f ?_ | refine a3m (id := 1) 9 a1v (by kernel_rfl) fun K hK => ?_ | refine a3m (id := 11) 6 a1v (by kernel_rfl) fun K hK => ?_ | refine stp ?_ | refine stpK ?_; intro K hK | refine stpC ?_; intro T E hT hE | refine stp2 ?_ ?_ <;> intro h | refine a0x rfl ?_ | refine a1a rfl (Nat.le_of_ble_eq_true rfl) a0z ?_ | refine a1a rfl (Nat.le_of_ble_eq_true rfl) (a0y (by simp [HPXB, a2f, fB, ext, upd, *])) ?_ | refine a2i (by decide) (by kernel_rfl) ?_ | refine a1j (by decide) ?_ | refine Kont.go hK ?_; clear hK K | refine KT.go hT ?_; clear hT hE T E | refine KT.go hE ?_; clear hT hE T E
  | simp [*, -List.all_flatten, -List.all_eq_true, DEFM, fB, a2g, a1t, a2f, hdN, a1h, a0v, a2h, a1n, a1b, a1c, a2z, a3a, a3b, anR, a6r, a6q, a3y, a4f, a3u, MG_t, MG_f, rmvs, a0j, a3t, a0f, a3i, a0b, a0d, FnD.row, Ins.row, a9q, a3u, a9z, a9y]
theorem h0u {p : Pg} (hp : VOk p) {m : Bool} {fk : FuncId} (hCT : CT p m fk) (hfk : fnOk Tryz.prog fk = true) {B : Heap} {Y : Pts} {g : Bool} {f pc : Nat} (hf : f < p.funcs.length) {X : Ins} (hI : InsOk p p.funcs[f] X) (hy : Shp p Y) (hB : BsM p 3 B) (q : X.op = 51) (h1 : ¬ X.b = 1) (h0 : ¬ 0 <= X.c) : FCr Tryz.prog Gl 141 [.ptr [81] 8 0 0, .agg [.int .i64 (f : Int), .int .i64 (pc : Int)], .agg X.row, .clo fk [] [.ptr [88] 1 0 0]] (HP [] B (MF p Y g)) (OutT p m B (a3z p f pc X) Y g) := by
 have hsv := a3v hp
 have fB : ∀ r, B (3 :: r) = none := fun r => (hB Y g Y g hy hy).fb 3 r (by decide)
 have y3 := hy.rn
 have y4 := hy.cn
 have hrr := hp.regs (List.getElem_mem hf)
 obtain ⟨y1, y2⟩ := hy.at hf
 obtain ⟨nr, hnr⟩ : ∃ nr : Nat, p.funcs[f].regs = (nr : Int) := ⟨p.funcs[f].regs.toNat, by have := hrr.p0; have := hrr.p1; omega⟩
 rw [hnr, Int.toNat_natCast] at y2
 have hnr64 : nr <= 64 := by have := hrr.r64; omega
 have hIa := hI.a
 have hIb := hI.b
 have hIc := hI.c
 have hi1 : ∀ (L : List (FM.Loc × FO)) (Z : Pts) (h : Bool), inH (HP L B (MF p Z h)) [88] := fun L Z h => a7u
 have hi2 : ∀ (L : List (FM.Loc × FO)) (Z : Pts) (h : Bool), inH (HP L B (MF p Z h)) [81] := fun L Z h => a3s a3y
 have hi3 : ∀ (L : List (FM.Loc × FO)) (Z : Pts) (h : Bool), Shp p Z -> inH (HP L B (MF p Z h)) [83, f] := fun L Z h hZ => a3s (a4f (hZ.at hf).1)
 have h0' : ¬ X.c ≥ 0 := h0
 refine a4b (res := []) 16 210 [27, 63, 62, 183, 192, 191, 190] (fun d ix => 3 :: d :: ix) (fn := Tryz.f141) (by kernel_rfl) (by rfl) (by rfl) (by rfl) (by simp) (by decide) ?_
 repeat' first
  | ((with_reducible refine a1z (id := 24) fun K hK => ?_); refine a1i 3 ?_)
  | ((with_reducible refine a1z (id := 27) fun K hK => ?_); refine a1i 5 ?_)
  | ((with_reducible refine a1z (id := 31) fun K hK => ?_); refine a1i 5 ?_)
  | ((with_reducible refine a1z (id := 33) fun K hK => ?_); refine a1i 6 ?_)
  | ((with_reducible refine a1z (id := 36) fun K hK => ?_); refine a1i 5 ?_)
  | ((with_reducible refine a1z (id := 39) fun K hK => ?_); refine a1i 5 ?_)
  | ((with_reducible refine a1z (id := 41) fun K hK => ?_); refine a1i 5 ?_)
  | ((with_reducible refine a1z (id := 45) fun K hK => ?_); refine a1i 4 ?_)
  | with_reducible first | refine a2b (id := 6) [] 7 a1v (by kernel_rfl) fun K hK => ?_ | refine a2b (id := 12) [] 8 a1v (by kernel_rfl) fun K hK => ?_ | refine a2b (id := 17) [] 16 a1v (by kernel_rfl) fun K hK => ?_ | refine a2b (id := 22) [] 11 a1v (by kernel_rfl) fun K hK => ?_ | refine a2b (id := 55) [] 12 a1v (by kernel_rfl) fun K hK => ?_ | refine a4q ?_
  | ((with_reducible refine lfH ?_); refine a7g (j := 3) (hB _ _ _ _ hy hy) rfl ⟨rfl, Y, g, rfl, hy, TR.id (by simp [a3z, q, alO, h0, h1])⟩ trivial)
  | with_reducible first | refine a4y ?_ | refine a7f ?_ | refine a3m (id := 1) 9 a1v (by kernel_rfl) fun K hK => ?_ | refine a3m (id := 11) 6 a1v (by kernel_rfl) fun K hK => ?_ | refine stp ?_ | refine stpK ?_; intro K hK | refine stpC ?_; intro T E hT hE | refine stp2 ?_ ?_ <;> intro h | refine a0x rfl ?_ | refine a1a rfl (Nat.le_of_ble_eq_true rfl) a0z ?_ | refine a1a rfl (Nat.le_of_ble_eq_true rfl) (a0y (by simp [HPXB, a2f, fB, ext, upd, *])) ?_ | refine a2i (by decide) (by kernel_rfl) ?_ | refine a1j (by decide) ?_ | refine Kont.go hK ?_; clear hK K | refine KT.go hT ?_; clear hT hE T E | refine KT.go hE ?_; clear hT hE T E
  | simp [*, -List.all_flatten, -List.all_eq_true, DEFM, fB, a2g, a1t, a2f, hdN, a1h, a0v, a2h, a1n, a1b, a1c, a2z, a3a, a3b, anR, a6r, a6q, a3y, a4f, a3u, MG_t, MG_f, rmvs, a0j, a3t, a0f, a3i, a0b, a0d, FnD.row, Ins.row, a9q, a3u, a9z, a9y]
theorem e8u {p : Pg} (hp : VOk p) {m : Bool} {fk : FuncId} (hCT : CT p m fk) (hfk : fnOk Tryz.prog fk = true) {B : Heap} {Y : Pts} {g : Bool} {f pc : Nat} (hf : f < p.funcs.length) {X : Ins} (hI : InsOk p p.funcs[f] X) (hy : Shp p Y) (hB : BsM p 3 B) (q18 : ¬ X.op = 18) (q21 : ¬ X.op = 21) (q22 : ¬ X.op = 22) (q23 : ¬ X.op = 23) (q24 : ¬ X.op = 24) (q3 : ¬ X.op = 3) (q19 : ¬ X.op = 19) (q20 : ¬ X.op = 20) (q25 : ¬ X.op = 25) (q33 : ¬ X.op = 33) (q35 : ¬ X.op = 35) (q34 : ¬ X.op = 34) (q36 : ¬ X.op = 36) (q47 : ¬ X.op = 47) (q38 : ¬ X.op = 38) (q48 : ¬ X.op = 48) (q51 : ¬ X.op = 51) (q26 : ¬ X.op = 26) (q28 : ¬ X.op = 28) (q31 : ¬ X.op = 31) (q27 : ¬ X.op = 27) (q29 : ¬ X.op = 29) (q32 : ¬ X.op = 32) : FCr Tryz.prog Gl 141 [.ptr [81] 8 0 0, .agg [.int .i64 (f : Int), .int .i64 (pc : Int)], .agg X.row, .clo fk [] [.ptr [88] 1 0 0]] (HP [] B (MF p Y g)) (OutT p m B (a3z p f pc X) Y g) := by
 have hsv := a3v hp
 have fB : ∀ r, B (3 :: r) = none := fun r => (hB Y g Y g hy hy).fb 3 r (by decide)
 have y3 := hy.rn
 have y4 := hy.cn
 have hrr := hp.regs (List.getElem_mem hf)
 obtain ⟨y1, y2⟩ := hy.at hf
 obtain ⟨nr, hnr⟩ : ∃ nr : Nat, p.funcs[f].regs = (nr : Int) := ⟨p.funcs[f].regs.toNat, by have := hrr.p0; have := hrr.p1; omega⟩
 rw [hnr, Int.toNat_natCast] at y2
 have hnr64 : nr <= 64 := by have := hrr.r64; omega
 have hIa := hI.a
 have hIb := hI.b
 have hIc := hI.c
 have hi1 : ∀ (L : List (FM.Loc × FO)) (Z : Pts) (h : Bool), inH (HP L B (MF p Z h)) [88] := fun L Z h => a7u
 have hi2 : ∀ (L : List (FM.Loc × FO)) (Z : Pts) (h : Bool), inH (HP L B (MF p Z h)) [81] := fun L Z h => a3s a3y
 have hi3 : ∀ (L : List (FM.Loc × FO)) (Z : Pts) (h : Bool), Shp p Z -> inH (HP L B (MF p Z h)) [83, f] := fun L Z h hZ => a3s (a4f (hZ.at hf).1)
 refine a4b (res := []) 16 210 [27, 63, 62, 183, 192, 191, 190] (fun d ix => 3 :: d :: ix) (fn := Tryz.f141) (by kernel_rfl) (by rfl) (by rfl) (by rfl) (by simp) (by decide) ?_
 repeat' first
  | ((with_reducible refine a1z (id := 24) fun K hK => ?_); refine a1i 3 ?_)
  | ((with_reducible refine a1z (id := 27) fun K hK => ?_); refine a1i 5 ?_)
  | ((with_reducible refine a1z (id := 31) fun K hK => ?_); refine a1i 5 ?_)
  | ((with_reducible refine a1z (id := 33) fun K hK => ?_); refine a1i 6 ?_)
  | ((with_reducible refine a1z (id := 36) fun K hK => ?_); refine a1i 5 ?_)
  | ((with_reducible refine a1z (id := 39) fun K hK => ?_); refine a1i 5 ?_)
  | ((with_reducible refine a1z (id := 41) fun K hK => ?_); refine a1i 5 ?_)
  | ((with_reducible refine a1z (id := 45) fun K hK => ?_); refine a1i 4 ?_)
  | with_reducible first | refine a2b (id := 6) [] 7 a1v (by kernel_rfl) fun K hK => ?_ | refine a2b (id := 12) [] 8 a1v (by kernel_rfl) fun K hK => ?_ | refine a2b (id := 17) [] 16 a1v (by kernel_rfl) fun K hK => ?_ | refine a2b (id := 22) [] 11 a1v (by kernel_rfl) fun K hK => ?_ | refine a2b (id := 55) [] 12 a1v (by kernel_rfl) fun K hK => ?_ | refine a4q ?_
  | ((with_reducible refine lfH ?_); refine a7g (j := 3) (hB _ _ _ _ hy hy) rfl ⟨rfl, Y, g, rfl, hy, TR.id (by simp [a3z, alO, *])⟩ trivial)
  | with_reducible first | refine a4y ?_ | refine a7f ?_ | refine a3m (id := 1) 9 a1v (by kernel_rfl) fun K hK => ?_ | refine a3m (id := 11) 6 a1v (by kernel_rfl) fun K hK => ?_ | refine stp ?_ | refine stpK ?_; intro K hK | refine stpC ?_; intro T E hT hE | refine stp2 ?_ ?_ <;> intro h | refine a0x rfl ?_ | refine a1a rfl (Nat.le_of_ble_eq_true rfl) a0z ?_ | refine a1a rfl (Nat.le_of_ble_eq_true rfl) (a0y (by simp [HPXB, a2f, fB, ext, upd, *])) ?_ | refine a2i (by decide) (by kernel_rfl) ?_ | refine a1j (by decide) ?_ | refine Kont.go hK ?_; clear hK K | refine KT.go hT ?_; clear hT hE T E | refine KT.go hE ?_; clear hT hE T E
  | simp [*, -List.all_flatten, -List.all_eq_true, DEFM, fB, a2g, a1t, a2f, hdN, a1h, a0v, a2h, a1n, a1b, a1c, a2z, a3a, a3b, anR, a6r, a6q, a3y, a4f, a3u, MG_t, MG_f, rmvs, a0j, a3t, a0f, a3i, a0b, a0d, FnD.row, Ins.row, a9q, a3u, a9z, a9y]
end Go.Je
