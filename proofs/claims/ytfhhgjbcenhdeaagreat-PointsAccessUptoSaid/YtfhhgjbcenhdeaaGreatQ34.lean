/- Parts of the proof. -/
import Derived.Test.YtfhhgjbcenhdeaaGreatQ29
set_option linter.unusedSimpArgs false
set_option linter.unusedVariables false
namespace Go.Ge
open Go Go.FM Go.Gv Go.Proofs
set_option maxRecDepth 100000
set_option maxHeartbeats 40000000
theorem g3z {p : Pg} (hp : VOk p) {m : Bool} {fk : FuncId} (hCT : CT p m fk) (hfk : fnOk Tryz.prog fk = true) {B : Heap} {Y : Pts} {g : Bool} {f pc : Nat} (hf : f < p.funcs.length) {X : Ins} (hI : InsOk p p.funcs[f] X) (hy : Shp p Y) (hB : BsM p 3 B) (q : X.op = 48) (h0 : 0 <= X.a) : FCr Tryz.prog Gl 51 [.ptr [81] 8 0 0, .agg [.int .i64 (f : Int), .int .i64 (pc : Int)], .agg X.row, .clo fk [] [.ptr [88] 1 0 0]] (HP [] B (MF p Y g)) (OutT p m B (a3t p f pc X) Y g) := by
 have hsv := a2f hp
 have fB : ∀ r, B (3 :: r) = none := fun r => (hB Y g Y g hy hy).fb 3 r (by decide)
 have y3 := hy.rn
 have y4 := hy.cn
 have hrr := hp.regs (List.getElem_mem hf)
 obtain ⟨y1, y2⟩ := hy.at hf
 obtain ⟨nr, hnr⟩ : ∃ nr : Nat, p.funcs[f].regs = (nr : Int) := ⟨p.funcs[f].regs.toNat, by have := hrr.p0; have := hrr.p1; omega⟩
 rw [hnr, Int.toNat_natCast] at y2
 have hnr64 : nr <= 64 := by have := hrr.r64; omega
 have hIa := hI.a
 have hIb := hI.b
 have hIc := hI.c
 have hi1 : ∀ (L : List (FM.Loc × FO)) (Z : Pts) (h : Bool), inH (HP L B (MF p Z h)) [88] := fun L Z h => a8b
 have hi2 : ∀ (L : List (FM.Loc × FO)) (Z : Pts) (h : Bool), inH (HP L B (MF p Z h)) [81] := fun L Z h => a3o a3w
 have hi3 : ∀ (L : List (FM.Loc × FO)) (Z : Pts) (h : Bool), Shp p Z -> inH (HP L B (MF p Z h)) [83, f] := fun L Z h hZ => a3o (a4k (hZ.at hf).1)
 have had : -1 <= X.a /\ X.a < p.funcs[f].regs := by have := hI.a; rw [q] at this; exact a9o this (.inl rfl)
 have ha : isR p.funcs[f] X.a := show isR p.funcs[f] X.a from ⟨h0, had.2⟩
 obtain ⟨a0, a1⟩ := id ha
 have aN : (X.a).toNat < nr := by omega
 have a2 : X.a < (nr : Int) := by omega
 have haS := hy.rok hf ha
 have hb : isR p.funcs[f] X.b := a4d (r := (rR X.op).2.1) hIb (by rw [q]; decide)
 obtain ⟨b0, b1⟩ := id hb
 have bN : (X.b).toNat < nr := by omega
 have b2 : X.b < (nr : Int) := by omega
 have hbS := hy.rok hf hb
 refine a3z (res := []) 16 210 [27, 63, 62, 183, 192, 191, 190] (fun d ix => 3 :: d :: ix) (fn := Tryz.f51) (by kernel_rfl) (by rfl) (by rfl) (by rfl) (by simp) (by decide) ?_
 repeat' first
  | ((with_reducible refine a2c (id := 24) fun K hK => ?_); refine a1o 3 ?_)
  | ((with_reducible refine a2c (id := 27) fun K hK => ?_); refine a1o 5 ?_)
  | ((with_reducible refine a2c (id := 31) fun K hK => ?_); refine a1o 5 ?_)
  | ((with_reducible refine a2c (id := 33) fun K hK => ?_); refine a1o 6 ?_)
  | ((with_reducible refine a2c (id := 36) fun K hK => ?_); refine a1o 5 ?_)
  | ((with_reducible refine a2c (id := 39) fun K hK => ?_); refine a1o 5 ?_)
  | ((with_reducible refine a2c (id := 41) fun K hK => ?_); refine a1o 5 ?_)
  | ((with_reducible refine a2c (id := 45) fun K hK => ?_); refine a1o 4 ?_)
  | (with_reducible refine a2e (id := 6) [] 7 a0m (by kernel_rfl) fun K hK => ?_)
  | (with_reducible refine a2e (id := 12) [] 8 a0m (by kernel_rfl) fun K hK => ?_)
  | (with_reducible refine a2e (id := 17) [] 16 a0m (by kernel_rfl) fun K hK => ?_)
  | (with_reducible refine a2e (id := 22) [] 11 a0m (by kernel_rfl) fun K hK => ?_)
  | (with_reducible refine a2e (id := 55) [] 12 a0m (by kernel_rfl) fun K hK => ?_)
  | (with_reducible refine a5b ?_)
  | ((with_reducible refine mdH ?_); refine a3j (by kernel_rfl) (fun d hd => ?_) rfl (cl1M hCT hfk (a := X.b) (e := X.a) (hf := hf) hy hB ?_ ?_ hnr ⟨?_, ?_, ?_⟩ hb ha) ?_; (focus (cases hd; exact Nat.le_of_ble_eq_true rfl)); (focus rfl); (focus (first | rfl | (simp [ninL, ninO, a3p, nins, nin, a0f, a0h, a0a, a1g, a0b, a0c, a1z, mapO, a2h, a1y, a1c, a0v, hdN, *]; done))); (focus (simp [a2o, a2r]; done)); (focus (simp [a2o, a2r]; done)); (focus (simp [a2o, a2r]; done)); (rintro r' H' ⟨rfl, Z2, h2, rfl, hZ2, hT2⟩))
  | ((with_reducible refine lfH ?_); refine a6w (j := 3) (hB _ _ _ _ hy hZ2) rfl ⟨rfl, Z2, h2, rfl, hZ2, hT2.congr (fun z => by simp [a3t, q, alO, gsr, rdC, wrC, h0])⟩ trivial)
  | (with_reducible refine a5f ?_)
  | (with_reducible refine a6y ?_)
  | with_reducible first | refine a0u (id := 1) 9 a0m (by kernel_rfl) fun K hK => ?_ | refine a0u (id := 11) 6 a0m (by kernel_rfl) fun K hK => ?_ | refine stp ?_
  | (with_reducible refine stpK ?_; intro K hK)
  | (with_reducible refine stpC ?_; intro T E hT hE)
  | (with_reducible refine stp2 ?_ ?_ <;> intro h)
  | with_reducible first | refine a0p rfl ?_ | refine a1r rfl (Nat.le_of_ble_eq_true rfl) a0r ?_ | refine a1r rfl (Nat.le_of_ble_eq_true rfl) (a0q (by simp [HPXB, a2b, fB, ext, upd, *])) ?_ | refine a1s (by decide) (by kernel_rfl) ?_ | refine a0x (by decide) ?_
  | (with_reducible refine Kont.go hK ?_; clear hK K)
  | ((with_reducible first | refine KT.go hT ?_ | refine KT.go hE ?_); clear hT hE T E)
  | simp [*, -List.all_flatten, -List.all_eq_true, DEFM, fB, a2d, a1q, a2b, hdN, a1c, a0v, a1y, a1j, a0y, a0z, a2k, a2l, a2m, anR, a6q, a6p, a3w, a4k, a3i, MG_t, MG_f, rmvs, a0j, a3m, a0g, a2x, a0c, a0f, FnD.row, Ins.row, b0x, a3i, b1c, b1b]
theorem g4a {p : Pg} (hp : VOk p) {m : Bool} {fk : FuncId} (hCT : CT p m fk) (hfk : fnOk Tryz.prog fk = true) {B : Heap} {Y : Pts} {g : Bool} {f pc : Nat} (hf : f < p.funcs.length) {X : Ins} (hI : InsOk p p.funcs[f] X) (hy : Shp p Y) (hB : BsM p 3 B) (q : X.op = 48) (h0 : ¬ 0 <= X.a) : FCr Tryz.prog Gl 51 [.ptr [81] 8 0 0, .agg [.int .i64 (f : Int), .int .i64 (pc : Int)], .agg X.row, .clo fk [] [.ptr [88] 1 0 0]] (HP [] B (MF p Y g)) (OutT p m B (a3t p f pc X) Y g) := by
 have hsv := a2f hp
 have fB : ∀ r, B (3 :: r) = none := fun r => (hB Y g Y g hy hy).fb 3 r (by decide)
 have y3 := hy.rn
 have y4 := hy.cn
 have hrr := hp.regs (List.getElem_mem hf)
 obtain ⟨y1, y2⟩ := hy.at hf
 obtain ⟨nr, hnr⟩ : ∃ nr : Nat, p.funcs[f].regs = (nr : Int) := ⟨p.funcs[f].regs.toNat, by have := hrr.p0; have := hrr.p1; omega⟩
 rw [hnr, Int.toNat_natCast] at y2
 have hnr64 : nr <= 64 := by have := hrr.r64; omega
 have hIa := hI.a
 have hIb := hI.b
 have hIc := hI.c
 have hi1 : ∀ (L : List (FM.Loc × FO)) (Z : Pts) (h : Bool), inH (HP L B (MF p Z h)) [88] := fun L Z h => a8b
 have hi2 : ∀ (L : List (FM.Loc × FO)) (Z : Pts) (h : Bool), inH (HP L B (MF p Z h)) [81] := fun L Z h => a3o a3w
 have hi3 : ∀ (L : List (FM.Loc × FO)) (Z : Pts) (h : Bool), Shp p Z -> inH (HP L B (MF p Z h)) [83, f] := fun L Z h hZ => a3o (a4k (hZ.at hf).1)
 have hZ2 := hy
 have h0' : ¬ X.a ≥ 0 := h0
 refine a3z (res := []) 16 210 [27, 63, 62, 183, 192, 191, 190] (fun d ix => 3 :: d :: ix) (fn := Tryz.f51) (by kernel_rfl) (by rfl) (by rfl) (by rfl) (by simp) (by decide) ?_
 repeat' first
  | ((with_reducible refine a2c (id := 24) fun K hK => ?_); refine a1o 3 ?_)
  | ((with_reducible refine a2c (id := 27) fun K hK => ?_); refine a1o 5 ?_)
  | ((with_reducible refine a2c (id := 31) fun K hK => ?_); refine a1o 5 ?_)
  | ((with_reducible refine a2c (id := 33) fun K hK => ?_); refine a1o 6 ?_)
  | ((with_reducible refine a2c (id := 36) fun K hK => ?_); refine a1o 5 ?_)
  | ((with_reducible refine a2c (id := 39) fun K hK => ?_); refine a1o 5 ?_)
  | ((with_reducible refine a2c (id := 41) fun K hK => ?_); refine a1o 5 ?_)
  | ((with_reducible refine a2c (id := 45) fun K hK => ?_); refine a1o 4 ?_)
  | (with_reducible refine a2e (id := 6) [] 7 a0m (by kernel_rfl) fun K hK => ?_)
  | (with_reducible refine a2e (id := 12) [] 8 a0m (by kernel_rfl) fun K hK => ?_)
  | (with_reducible refine a2e (id := 17) [] 16 a0m (by kernel_rfl) fun K hK => ?_)
  | (with_reducible refine a2e (id := 22) [] 11 a0m (by kernel_rfl) fun K hK => ?_)
  | (with_reducible refine a2e (id := 55) [] 12 a0m (by kernel_rfl) fun K hK => ?_)
  | (with_reducible refine a5b ?_)
  | ((with_reducible refine lfH ?_); refine a6w (j := 3) (hB _ _ _ _ hy hy) rfl ⟨rfl, Y, g, rfl, hy, TR.id (by simp [a3t, q, alO, h0])⟩ trivial)
  | (with_reducible refine a5f ?_)
  | (with_reducible refine a6y ?_)
  | with_reducible first | refine a0u (id := 1) 9 a0m (by kernel_rfl) fun K hK => ?_ | refine a0u (id := 11) 6 a0m (by kernel_rfl) fun K hK => ?_ | refine stp ?_
  | (with_reducible refine stpK ?_; intro K hK)
  | (with_reducible refine stpC ?_; intro T E hT hE)
  | (with_reducible refine stp2 ?_ ?_ <;> intro h)
  | with_reducible first | refine a0p rfl ?_ | refine a1r rfl (Nat.le_of_ble_eq_true rfl) a0r ?_ | refine a1r rfl (Nat.le_of_ble_eq_true rfl) (a0q (by simp [HPXB, a2b, fB, ext, upd, *])) ?_ | refine a1s (by decide) (by kernel_rfl) ?_ | refine a0x (by decide) ?_
  | (with_reducible refine Kont.go hK ?_; clear hK K)
  | ((with_reducible first | refine KT.go hT ?_ | refine KT.go hE ?_); clear hT hE T E)
  | simp [*, -List.all_flatten, -List.all_eq_true, DEFM, fB, a2d, a1q, a2b, hdN, a1c, a0v, a1y, a1j, a0y, a0z, a2k, a2l, a2m, anR, a6q, a6p, a3w, a4k, a3i, MG_t, MG_f, rmvs, a0j, a3m, a0g, a2x, a0c, a0f, FnD.row, Ins.row, b0x, a3i, b1c, b1b]
theorem g3w {p : Pg} (hp : VOk p) {m : Bool} {fk : FuncId} (hCT : CT p m fk) (hfk : fnOk Tryz.prog fk = true) {B : Heap} {Y : Pts} {g : Bool} {f pc : Nat} (hf : f < p.funcs.length) {X : Ins} (hI : InsOk p p.funcs[f] X) (hy : Shp p Y) (hB : BsM p 3 B) (q : X.op = 51) (h1 : ¬ X.b = 1) (h0 : 0 <= X.c) : FCr Tryz.prog Gl 51 [.ptr [81] 8 0 0, .agg [.int .i64 (f : Int), .int .i64 (pc : Int)], .agg X.row, .clo fk [] [.ptr [88] 1 0 0]] (HP [] B (MF p Y g)) (OutT p m B (a3t p f pc X) Y g) := by
 have hsv := a2f hp
 have fB : ∀ r, B (3 :: r) = none := fun r => (hB Y g Y g hy hy).fb 3 r (by decide)
 have y3 := hy.rn
 have y4 := hy.cn
 have hrr := hp.regs (List.getElem_mem hf)
 obtain ⟨y1, y2⟩ := hy.at hf
 obtain ⟨nr, hnr⟩ : ∃ nr : Nat, p.funcs[f].regs = (nr : Int) := ⟨p.funcs[f].regs.toNat, by have := hrr.p0; have := hrr.p1; omega⟩
 rw [hnr, Int.toNat_natCast] at y2
 have hnr64 : nr <= 64 := by have := hrr.r64; omega
 have hIa := hI.a
 have hIb := hI.b
 have hIc := hI.c
 have hi1 : ∀ (L : List (FM.Loc × FO)) (Z : Pts) (h : Bool), inH (HP L B (MF p Z h)) [88] := fun L Z h => a8b
 have hi2 : ∀ (L : List (FM.Loc × FO)) (Z : Pts) (h : Bool), inH (HP L B (MF p Z h)) [81] := fun L Z h => a3o a3w
 have hi3 : ∀ (L : List (FM.Loc × FO)) (Z : Pts) (h : Bool), Shp p Z -> inH (HP L B (MF p Z h)) [83, f] := fun L Z h hZ => a3o (a4k (hZ.at hf).1)
 have hcc := hI.c
 rw [q] at hcc
 have hcc := c6r (show opR p p.funcs[f] X 99 X.c = true from hcc)
 have ha : isR p.funcs[f] X.a := a4d (r := (rR X.op).1) hIa (by rw [q]; decide)
 obtain ⟨a0, a1⟩ := id ha
 have aN : (X.a).toNat < nr := by omega
 have a2 : X.a < (nr : Int) := by omega
 have haS := hy.rok hf ha
 have hc : isR p.funcs[f] X.c := show isR p.funcs[f] X.c from ⟨h0, hcc.1⟩
 obtain ⟨c0, c1⟩ := id hc
 have cN : (X.c).toNat < nr := by omega
 have c2 : X.c < (nr : Int) := by omega
 have hcS := hy.rok hf hc
 refine a3z (res := []) 16 210 [27, 63, 62, 183, 192, 191, 190] (fun d ix => 3 :: d :: ix) (fn := Tryz.f51) (by kernel_rfl) (by rfl) (by rfl) (by rfl) (by simp) (by decide) ?_
 repeat' first
  | ((with_reducible refine a2c (id := 24) fun K hK => ?_); refine a1o 3 ?_)
  | ((with_reducible refine a2c (id := 27) fun K hK => ?_); refine a1o 5 ?_)
  | ((with_reducible refine a2c (id := 31) fun K hK => ?_); refine a1o 5 ?_)
  | ((with_reducible refine a2c (id := 33) fun K hK => ?_); refine a1o 6 ?_)
  | ((with_reducible refine a2c (id := 36) fun K hK => ?_); refine a1o 5 ?_)
  | ((with_reducible refine a2c (id := 39) fun K hK => ?_); refine a1o 5 ?_)
  | ((with_reducible refine a2c (id := 41) fun K hK => ?_); refine a1o 5 ?_)
  | ((with_reducible refine a2c (id := 45) fun K hK => ?_); refine a1o 4 ?_)
  | (with_reducible refine a2e (id := 6) [] 7 a0m (by kernel_rfl) fun K hK => ?_)
  | (with_reducible refine a2e (id := 12) [] 8 a0m (by kernel_rfl) fun K hK => ?_)
  | (with_reducible refine a2e (id := 17) [] 16 a0m (by kernel_rfl) fun K hK => ?_)
  | (with_reducible refine a2e (id := 22) [] 11 a0m (by kernel_rfl) fun K hK => ?_)
  | (with_reducible refine a2e (id := 55) [] 12 a0m (by kernel_rfl) fun K hK => ?_)
  | (with_reducible refine a5b ?_)
  | ((with_reducible refine mdH ?_); refine a3j (by kernel_rfl) (fun d hd => ?_) rfl (cl1M hCT hfk (a := X.a) (e := X.c) (hf := hf) hy hB ?_ ?_ hnr ⟨?_, ?_, ?_⟩ ha hc) ?_; (focus (cases hd; exact Nat.le_of_ble_eq_true rfl)); (focus rfl); (focus (first | rfl | (simp [ninL, ninO, a3p, nins, nin, a0f, a0h, a0a, a1g, a0b, a0c, a1z, mapO, a2h, a1y, a1c, a0v, hdN, *]; done))); (focus (simp [a2o, a2r]; done)); (focus (simp [a2o, a2r]; done)); (focus (simp [a2o, a2r]; done)); (rintro r' H' ⟨rfl, Z2, h2, rfl, hZ2, hT2⟩))
  | ((with_reducible refine lfH ?_); refine a6w (j := 3) (hB _ _ _ _ hy hZ2) rfl ⟨rfl, Z2, h2, rfl, hZ2, hT2.congr (fun z => by simp [a3t, q, alO, gsr, rdC, wrC, h0, h1])⟩ trivial)
  | (with_reducible refine a5f ?_)
  | (with_reducible refine a6y ?_)
  | with_reducible first | refine a0u (id := 1) 9 a0m (by kernel_rfl) fun K hK => ?_ | refine a0u (id := 11) 6 a0m (by kernel_rfl) fun K hK => ?_ | refine stp ?_
  | (with_reducible refine stpK ?_; intro K hK)
  | (with_reducible refine stpC ?_; intro T E hT hE)
  | (with_reducible refine stp2 ?_ ?_ <;> intro h)
  | with_reducible first | refine a0p rfl ?_ | refine a1r rfl (Nat.le_of_ble_eq_true rfl) a0r ?_ | refine a1r rfl (Nat.le_of_ble_eq_true rfl) (a0q (by simp [HPXB, a2b, fB, ext, upd, *])) ?_ | refine a1s (by decide) (by kernel_rfl) ?_ | refine a0x (by decide) ?_
  | (with_reducible refine Kont.go hK ?_; clear hK K)
  | ((with_reducible first | refine KT.go hT ?_ | refine KT.go hE ?_); clear hT hE T E)
  | simp [*, -List.all_flatten, -List.all_eq_true, DEFM, fB, a2d, a1q, a2b, hdN, a1c, a0v, a1y, a1j, a0y, a0z, a2k, a2l, a2m, anR, a6q, a6p, a3w, a4k, a3i, MG_t, MG_f, rmvs, a0j, a3m, a0g, a2x, a0c, a0f, FnD.row, Ins.row, b0x, a3i, b1c, b1b]
theorem g3y {p : Pg} (hp : VOk p) {m : Bool} {fk : FuncId} (hCT : CT p m fk) (hfk : fnOk Tryz.prog fk = true) {B : Heap} {Y : Pts} {g : Bool} {f pc : Nat} (hf : f < p.funcs.length) {X : Ins} (hI : InsOk p p.funcs[f] X) (hy : Shp p Y) (hB : BsM p 3 B) (q : X.op = 51) (h1 : ¬ X.b = 1) (h0 : ¬ 0 <= X.c) : FCr Tryz.prog Gl 51 [.ptr [81] 8 0 0, .agg [.int .i64 (f : Int), .int .i64 (pc : Int)], .agg X.row, .clo fk [] [.ptr [88] 1 0 0]] (HP [] B (MF p Y g)) (OutT p m B (a3t p f pc X) Y g) := by
 have hsv := a2f hp
 have fB : ∀ r, B (3 :: r) = none := fun r => (hB Y g Y g hy hy).fb 3 r (by decide)
 have y3 := hy.rn
 have y4 := hy.cn
 have hrr := hp.regs (List.getElem_mem hf)
 obtain ⟨y1, y2⟩ := hy.at hf
 obtain ⟨nr, hnr⟩ : ∃ nr : Nat, p.funcs[f].regs = (nr : Int) := ⟨p.funcs[f].regs.toNat, by have := hrr.p0; have := hrr.p1; omega⟩
 rw [hnr, Int.toNat_natCast] at y2
 have hnr64 : nr <= 64 := by have := hrr.r64; omega
 have hIa := hI.a
 have hIb := hI.b
 have hIc := hI.c
 have hi1 : ∀ (L : List (FM.Loc × FO)) (Z : Pts) (h : Bool), inH (HP L B (MF p Z h)) [88] := fun L Z h => a8b
 have hi2 : ∀ (L : List (FM.Loc × FO)) (Z : Pts) (h : Bool), inH (HP L B (MF p Z h)) [81] := fun L Z h => a3o a3w
 have hi3 : ∀ (L : List (FM.Loc × FO)) (Z : Pts) (h : Bool), Shp p Z -> inH (HP L B (MF p Z h)) [83, f] := fun L Z h hZ => a3o (a4k (hZ.at hf).1)
 have h0' : ¬ X.c ≥ 0 := h0
 refine a3z (res := []) 16 210 [27, 63, 62, 183, 192, 191, 190] (fun d ix => 3 :: d :: ix) (fn := Tryz.f51) (by kernel_rfl) (by rfl) (by rfl) (by rfl) (by simp) (by decide) ?_
 repeat' first
  | ((with_reducible refine a2c (id := 24) fun K hK => ?_); refine a1o 3 ?_)
  | ((with_reducible refine a2c (id := 27) fun K hK => ?_); refine a1o 5 ?_)
  | ((with_reducible refine a2c (id := 31) fun K hK => ?_); refine a1o 5 ?_)
  | ((with_reducible refine a2c (id := 33) fun K hK => ?_); refine a1o 6 ?_)
  | ((with_reducible refine a2c (id := 36) fun K hK => ?_); refine a1o 5 ?_)
  | ((with_reducible refine a2c (id := 39) fun K hK => ?_); refine a1o 5 ?_)
  | ((with_reducible refine a2c (id := 41) fun K hK => ?_); refine a1o 5 ?_)
  | ((with_reducible refine a2c (id := 45) fun K hK => ?_); refine a1o 4 ?_)
  | (with_reducible refine a2e (id := 6) [] 7 a0m (by kernel_rfl) fun K hK => ?_)
  | (with_reducible refine a2e (id := 12) [] 8 a0m (by kernel_rfl) fun K hK => ?_)
  | (with_reducible refine a2e (id := 17) [] 16 a0m (by kernel_rfl) fun K hK => ?_)
  | (with_reducible refine a2e (id := 22) [] 11 a0m (by kernel_rfl) fun K hK => ?_)
  | (with_reducible refine a2e (id := 55) [] 12 a0m (by kernel_rfl) fun K hK => ?_)
  | (with_reducible refine a5b ?_)
  | ((with_reducible refine lfH ?_); refine a6w (j := 3) (hB _ _ _ _ hy hy) rfl ⟨rfl, Y, g, rfl, hy, TR.id (by simp [a3t, q, alO, h0, h1])⟩ trivial)
  | (with_reducible refine a5f ?_)
  | (with_reducible refine a6y ?_)
  | with_reducible first | refine a0u (id := 1) 9 a0m (by kernel_rfl) fun K hK => ?_ | refine a0u (id := 11) 6 a0m (by kernel_rfl) fun K hK => ?_ | refine stp ?_
  | (with_reducible refine stpK ?_; intro K hK)
  | (with_reducible refine stpC ?_; intro T E hT hE)
  | (with_reducible refine stp2 ?_ ?_ <;> intro h)
  | with_reducible first | refine a0p rfl ?_ | refine a1r rfl (Nat.le_of_ble_eq_true rfl) a0r ?_ | refine a1r rfl (Nat.le_of_ble_eq_true rfl) (a0q (by simp [HPXB, a2b, fB, ext, upd, *])) ?_ | refine a1s (by decide) (by kernel_rfl) ?_ | refine a0x (by decide) ?_
  | (with_reducible refine Kont.go hK ?_; clear hK K)
  | ((with_reducible first | refine KT.go hT ?_ | refine KT.go hE ?_); clear hT hE T E)
  | simp [*, -List.all_flatten, -List.all_eq_true, DEFM, fB, a2d, a1q, a2b, hdN, a1c, a0v, a1y, a1j, a0y, a0z, a2k, a2l, a2m, anR, a6q, a6p, a3w, a4k, a3i, MG_t, MG_f, rmvs, a0j, a3m, a0g, a2x, a0c, a0f, FnD.row, Ins.row, b0x, a3i, b1c, b1b]
theorem f6j {p : Pg} (hp : VOk p) {m : Bool} {fk : FuncId} (hCT : CT p m fk) (hfk : fnOk Tryz.prog fk = true) {B : Heap} {Y : Pts} {g : Bool} {f pc : Nat} (hf : f < p.funcs.length) {X : Ins} (hI : InsOk p p.funcs[f] X) (hy : Shp p Y) (hB : BsM p 3 B) (q : X.op = 33 \/ X.op = 35) : FCr Tryz.prog Gl 51 [.ptr [81] 8 0 0, .agg [.int .i64 (f : Int), .int .i64 (pc : Int)], .agg X.row, .clo fk [] [.ptr [88] 1 0 0]] (HP [] B (MF p Y g)) (OutT p m B (a3t p f pc X) Y g) := by
 rcases q with q | q
 all_goals
  have hsv := a2f hp
  have fB : ∀ r, B (3 :: r) = none := fun r => (hB Y g Y g hy hy).fb 3 r (by decide)
  have y3 := hy.rn
  have y4 := hy.cn
  have hrr := hp.regs (List.getElem_mem hf)
  obtain ⟨y1, y2⟩ := hy.at hf
  obtain ⟨nr, hnr⟩ : ∃ nr : Nat, p.funcs[f].regs = (nr : Int) := ⟨p.funcs[f].regs.toNat, by have := hrr.p0; have := hrr.p1; omega⟩
  rw [hnr, Int.toNat_natCast] at y2
  have hnr64 : nr <= 64 := by have := hrr.r64; omega
  have hIa := hI.a
  have hIb := hI.b
  have hIc := hI.c
  have hi1 : ∀ (L : List (FM.Loc × FO)) (Z : Pts) (h : Bool), inH (HP L B (MF p Z h)) [88] := fun L Z h => a8b
  have hi2 : ∀ (L : List (FM.Loc × FO)) (Z : Pts) (h : Bool), inH (HP L B (MF p Z h)) [81] := fun L Z h => a3o a3w
  have hi3 : ∀ (L : List (FM.Loc × FO)) (Z : Pts) (h : Bool), Shp p Z -> inH (HP L B (MF p Z h)) [83, f] := fun L Z h hZ => a3o (a4k (hZ.at hf).1)
  have ha : isR p.funcs[f] X.a := a4d (r := (rR X.op).1) hIa (by rw [q]; decide)
  obtain ⟨a0, a1⟩ := id ha
  have aN : (X.a).toNat < nr := by omega
  have a2 : X.a < (nr : Int) := by omega
  have haS := hy.rok hf ha
  have hb : isR p.funcs[f] X.b := a4d (r := (rR X.op).2.1) hIb (by rw [q]; decide)
  obtain ⟨b0, b1⟩ := id hb
  have bN : (X.b).toNat < nr := by omega
  have b2 : X.b < (nr : Int) := by omega
  have hbS := hy.rok hf hb
  refine a3z (res := []) 16 210 [27, 63, 62, 183, 192, 191, 190] (fun d ix => 3 :: d :: ix) (fn := Tryz.f51) (by kernel_rfl) (by rfl) (by rfl) (by rfl) (by simp) (by decide) ?_
  repeat' first
   | ((with_reducible refine a2c (id := 24) fun K hK => ?_); refine a1o 3 ?_)
   | ((with_reducible refine a2c (id := 27) fun K hK => ?_); refine a1o 5 ?_)
   | ((with_reducible refine a2c (id := 31) fun K hK => ?_); refine a1o 5 ?_)
   | ((with_reducible refine a2c (id := 33) fun K hK => ?_); refine a1o 6 ?_)
   | ((with_reducible refine a2c (id := 36) fun K hK => ?_); refine a1o 5 ?_)
   | ((with_reducible refine a2c (id := 39) fun K hK => ?_); refine a1o 5 ?_)
   | ((with_reducible refine a2c (id := 41) fun K hK => ?_); refine a1o 5 ?_)
   | ((with_reducible refine a2c (id := 45) fun K hK => ?_); refine a1o 4 ?_)
   | (with_reducible refine a2e (id := 6) [] 7 a0m (by kernel_rfl) fun K hK => ?_)
   | (with_reducible refine a2e (id := 12) [] 8 a0m (by kernel_rfl) fun K hK => ?_)
   | (with_reducible refine a2e (id := 17) [] 16 a0m (by kernel_rfl) fun K hK => ?_)
   | (with_reducible refine a2e (id := 22) [] 11 a0m (by kernel_rfl) fun K hK => ?_)
   | (with_reducible refine a2e (id := 55) [] 12 a0m (by kernel_rfl) fun K hK => ?_)
   | (with_reducible refine a5b ?_)
   | ((with_reducible refine mdH ?_); refine a3j (by kernel_rfl) (fun d hd => ?_) rfl (cl1M hCT hfk (a := X.b) (e := X.a) (hf := hf) hy hB ?_ ?_ hnr ⟨?_, ?_, ?_⟩ hb ha) ?_; (focus (cases hd; exact Nat.le_of_ble_eq_true rfl)); (focus rfl); (focus (first | rfl | (simp [ninL, ninO, a3p, nins, nin, a0f, a0h, a0a, a1g, a0b, a0c, a1z, mapO, a2h, a1y, a1c, a0v, hdN, *]; done))); (focus (simp [a2o, a2r]; done)); (focus (simp [a2o, a2r]; done)); (focus (simp [a2o, a2r]; done)); (rintro r' H' ⟨rfl, Z2, h2, rfl, hZ2, hT2⟩))
   | ((with_reducible refine lfH ?_); refine a6w (j := 3) (hB _ _ _ _ hy hZ2) rfl ⟨rfl, Z2, h2, rfl, hZ2, hT2.congr (fun z => by simp [a3t, q, alO, gsr, rdC, wrC])⟩ trivial)
   | (with_reducible refine a5f ?_)
   | (with_reducible refine a6y ?_)
   | with_reducible first | refine a0u (id := 1) 9 a0m (by kernel_rfl) fun K hK => ?_ | refine a0u (id := 11) 6 a0m (by kernel_rfl) fun K hK => ?_ | refine stp ?_
   | (with_reducible refine stpK ?_; intro K hK)
   | (with_reducible refine stpC ?_; intro T E hT hE)
   | (with_reducible refine stp2 ?_ ?_ <;> intro h)
   | with_reducible first | refine a0p rfl ?_ | refine a1r rfl (Nat.le_of_ble_eq_true rfl) a0r ?_ | refine a1r rfl (Nat.le_of_ble_eq_true rfl) (a0q (by simp [HPXB, a2b, fB, ext, upd, *])) ?_ | refine a1s (by decide) (by kernel_rfl) ?_ | refine a0x (by decide) ?_
   | (with_reducible refine Kont.go hK ?_; clear hK K)
   | ((with_reducible first | refine KT.go hT ?_ | refine KT.go hE ?_); clear hT hE T E)
   | simp [*, -List.all_flatten, -List.all_eq_true, DEFM, fB, a2d, a1q, a2b, hdN, a1c, a0v, a1y, a1j, a0y, a0z, a2k, a2l, a2m, anR, a6q, a6p, a3w, a4k, a3i, MG_t, MG_f, rmvs, a0j, a3m, a0g, a2x, a0c, a0f, FnD.row, Ins.row, b0x, a3i, b1c, b1b]
end Go.Ge
