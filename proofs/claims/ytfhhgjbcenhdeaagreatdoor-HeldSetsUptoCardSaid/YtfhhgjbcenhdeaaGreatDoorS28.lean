/- Part. -/
import Derived.Test.YtfhhgjbcenhdeaaGreatDoorS24
import Derived.Test.YtfhhgjbcenhdeaaGreatDoorS25
set_option linter.all false
set_option maxRecDepth 100000
set_option maxHeartbeats 0
namespace Go.Je
open Go Go.FM Go.Gv Go.Proofs
variable {B : Heap} {X : Ins} {Y : Pts} {c : List Ins} {f pc : Nat} {fk : FuncId} {g m : Bool} {p : Pg}
theorem g9o (hp : VOk p) (hCT : CT p m fk) (hfk : fnOk Tp fk = true) (hf : f < p.fu.length) (hI : InsOk p p.fu[f] X) (hy : Shp p Y) (hB : BsM p 3 B) (q : X.op = 48) (h0 : 0 <= X.a) : FCr Tp Gl 141 [.ptr [81] 8 0 0, .agg [.int .i64 (f : Int), .int .i64 (pc : Int)], .agg X.row, .clo fk [] [.ptr [88] 1 0 0]] (HP [] B (MF p Y g)) (OutT p m B (a1x p f pc X) Y g) := by
 have hsv := a0h hp
 have fB : ∀ r, B (3 :: r) = none := fun r => (hB Y g Y g hy hy).fb 3 r yb
 have yl3 := hy.rn
 have yl4 := hy.cn
 have hrr := hp.regs (A5p hf)
 obtain ⟨yl1, yl2⟩ := hy.at hf
 obtain ⟨nr, hnr⟩ : ∃ nr : Nat, p.fu[f].regs = (nr : Int) := ⟨p.fu[f].regs.toNat, by have := hrr.p0; have := hrr.p1; omega⟩
 rw [hnr, A5r] at yl2
 have hnr64 : nr <= 64 := by have := hrr.r64; omega
 have hIa := hI.a
 have hIb := hI.b
 have hIc := hI.c
 have hi1 : ∀ (L : LF) (Z : Pts) (h : Bool), inH (HP L B (MF p Z h)) [88] := fun L Z h => a5m
 have hi2 : ∀ (L : LF) (Z : Pts) (h : Bool), inH (HP L B (MF p Z h)) [81] := fun L Z h => a1g a4j
 have hi3 : ∀ (L : LF) (Z : Pts) (h : Bool), Shp p Z -> inH (HP L B (MF p Z h)) [83, f] := fun L Z h hZ => a1g (a6t (hZ.at hf).1)
 have had : -1 <= X.a /\ X.a < p.fu[f].regs := by have := hI.a; rw [q] at this; exact a7d this (.inl rfl)
 have ha : isR p.fu[f] X.a := show isR p.fu[f] X.a from ⟨h0, had.2⟩
 obtain ⟨a0, a1⟩ := id ha
 have aN : (X.a).toNat < nr := by omega
 have a2 : X.a < (nr : Int) := by omega
 have haS := hy.rok hf ha
 have hb : isR p.fu[f] X.b := a2g (r := (rR X.op).2.1) hIb y7
 obtain ⟨b0, b1⟩ := id hb
 have bN : (X.b).toNat < nr := by omega
 have b2 : X.b < (nr : Int) := by omega
 have hbS := hy.rok hf hb
 refine zd Tryz.f141 [] 16 210 [27, 63, 62, 183, 192, 191, 190] 3 ?_
 repeat' first
  | (refine dx1 ?_; intro K hK)
  | with_reducible first | refine a0f (id := 6) [] 7 a0d yc fun K hK => ?_ | refine a0f (id := 12) [] 8 a0d yc fun K hK => ?_ | refine a0f (id := 17) [] 16 a0d yc fun K hK => ?_ | refine a0f (id := 22) [] 11 a0d yc fun K hK => ?_ | refine a0f (id := 55) [] 12 a0d yc fun K hK => ?_ | refine a2m ?_
  | (refine zj ?_; refine a1c yc (fun d hd => ?_) rfl (cl1M hCT hfk (a := X.b) (e := X.a) (hf := hf) hy hB ?_ ?_ hnr ⟨?_, ?_, ?_⟩ hb ha) ?_; (focus (cases hd; exact A5l rfl)); (focus rfl); (focus (first | rfl | (simp [ninL, ninO, a1h, nins, nin, zk, mapO, z15, hdN, *]; done))); (iterate 3 (focus (simp [yw]; done))); (rintro r' H' ⟨rfl, Z2, h2, rfl, hZ2, hT2⟩))
  | (refine zf ?_; refine a4y (j := 3) (hB _ _ _ _ hy hZ2) rfl ⟨rfl, Z2, h2, rfl, hZ2, hT2.congr (fun z => by simp [a1x, q, alO, gsr, rdC, wrC, h0])⟩ trivial)
  | with_reducible first | refine a2w ?_ | refine a4r ?_ | refine wh ?_; intro K hK | refine yo ?_ | refine stpC ?_; intro T E hT hE | refine stp2 ?_ ?_ <;> intro h | refine yg ?_; clear hK K | refine yh ?_; clear hT hE T E
  | simp [*, -List.all_flatten, -List.all_eq_true, DEFM, fB, yu, hdN, zt, anR, y3, rmvs, za, FnD.row, Ins.row, zz]
theorem g9p (hp : VOk p) (hCT : CT p m fk) (hfk : fnOk Tp fk = true) (hf : f < p.fu.length) (hI : InsOk p p.fu[f] X) (hy : Shp p Y) (hB : BsM p 3 B) (q : X.op = 48) (h0 : ¬ 0 <= X.a) : FCr Tp Gl 141 [.ptr [81] 8 0 0, .agg [.int .i64 (f : Int), .int .i64 (pc : Int)], .agg X.row, .clo fk [] [.ptr [88] 1 0 0]] (HP [] B (MF p Y g)) (OutT p m B (a1x p f pc X) Y g) := by
 have hsv := a0h hp
 have fB : ∀ r, B (3 :: r) = none := fun r => (hB Y g Y g hy hy).fb 3 r yb
 have yl3 := hy.rn
 have yl4 := hy.cn
 have hrr := hp.regs (A5p hf)
 obtain ⟨yl1, yl2⟩ := hy.at hf
 obtain ⟨nr, hnr⟩ : ∃ nr : Nat, p.fu[f].regs = (nr : Int) := ⟨p.fu[f].regs.toNat, by have := hrr.p0; have := hrr.p1; omega⟩
 rw [hnr, A5r] at yl2
 have hnr64 : nr <= 64 := by have := hrr.r64; omega
 have hIa := hI.a
 have hIb := hI.b
 have hIc := hI.c
 have hi1 : ∀ (L : LF) (Z : Pts) (h : Bool), inH (HP L B (MF p Z h)) [88] := fun L Z h => a5m
 have hi2 : ∀ (L : LF) (Z : Pts) (h : Bool), inH (HP L B (MF p Z h)) [81] := fun L Z h => a1g a4j
 have hi3 : ∀ (L : LF) (Z : Pts) (h : Bool), Shp p Z -> inH (HP L B (MF p Z h)) [83, f] := fun L Z h hZ => a1g (a6t (hZ.at hf).1)
 have hZ2 := hy
 have h0' : ¬ X.a ≥ 0 := h0
 refine zd Tryz.f141 [] 16 210 [27, 63, 62, 183, 192, 191, 190] 3 ?_
 repeat' first
  | (refine dx1 ?_; intro K hK)
  | with_reducible first | refine a0f (id := 6) [] 7 a0d yc fun K hK => ?_ | refine a0f (id := 12) [] 8 a0d yc fun K hK => ?_ | refine a0f (id := 17) [] 16 a0d yc fun K hK => ?_ | refine a0f (id := 22) [] 11 a0d yc fun K hK => ?_ | refine a0f (id := 55) [] 12 a0d yc fun K hK => ?_ | refine a2m ?_
  | (refine zf ?_; refine a4y (j := 3) (hB _ _ _ _ hy hy) rfl ⟨rfl, Y, g, rfl, hy, TR.id (by simp [a1x, q, alO, h0])⟩ trivial)
  | with_reducible first | refine a2w ?_ | refine a4r ?_ | refine wh ?_; intro K hK | refine yo ?_ | refine stpC ?_; intro T E hT hE | refine stp2 ?_ ?_ <;> intro h | refine yg ?_; clear hK K | refine yh ?_; clear hT hE T E
  | simp [*, -List.all_flatten, -List.all_eq_true, DEFM, fB, yu, hdN, zt, anR, y3, rmvs, za, FnD.row, Ins.row, zz]
theorem g9l (hp : VOk p) (hCT : CT p m fk) (hfk : fnOk Tp fk = true) (hf : f < p.fu.length) (hI : InsOk p p.fu[f] X) (hy : Shp p Y) (hB : BsM p 3 B) (q : X.op = 51) (h1 : ¬ X.b = 1) (h0 : 0 <= X.c) : FCr Tp Gl 141 [.ptr [81] 8 0 0, .agg [.int .i64 (f : Int), .int .i64 (pc : Int)], .agg X.row, .clo fk [] [.ptr [88] 1 0 0]] (HP [] B (MF p Y g)) (OutT p m B (a1x p f pc X) Y g) := by
 have hsv := a0h hp
 have fB : ∀ r, B (3 :: r) = none := fun r => (hB Y g Y g hy hy).fb 3 r yb
 have yl3 := hy.rn
 have yl4 := hy.cn
 have hrr := hp.regs (A5p hf)
 obtain ⟨yl1, yl2⟩ := hy.at hf
 obtain ⟨nr, hnr⟩ : ∃ nr : Nat, p.fu[f].regs = (nr : Int) := ⟨p.fu[f].regs.toNat, by have := hrr.p0; have := hrr.p1; omega⟩
 rw [hnr, A5r] at yl2
 have hnr64 : nr <= 64 := by have := hrr.r64; omega
 have hIa := hI.a
 have hIb := hI.b
 have hIc := hI.c
 have hi1 : ∀ (L : LF) (Z : Pts) (h : Bool), inH (HP L B (MF p Z h)) [88] := fun L Z h => a5m
 have hi2 : ∀ (L : LF) (Z : Pts) (h : Bool), inH (HP L B (MF p Z h)) [81] := fun L Z h => a1g a4j
 have hi3 : ∀ (L : LF) (Z : Pts) (h : Bool), Shp p Z -> inH (HP L B (MF p Z h)) [83, f] := fun L Z h hZ => a1g (a6t (hZ.at hf).1)
 have hcc := hI.c
 rw [q] at hcc
 have hcc := c9e (show opR p p.fu[f] X 99 X.c = true from hcc)
 have ha : isR p.fu[f] X.a := a2g (r := (rR X.op).1) hIa y7
 obtain ⟨a0, a1⟩ := id ha
 have aN : (X.a).toNat < nr := by omega
 have a2 : X.a < (nr : Int) := by omega
 have haS := hy.rok hf ha
 have hc : isR p.fu[f] X.c := show isR p.fu[f] X.c from ⟨h0, hcc.1⟩
 obtain ⟨c0, c1⟩ := id hc
 have cN : (X.c).toNat < nr := by omega
 have c2 : X.c < (nr : Int) := by omega
 have hcS := hy.rok hf hc
 refine zd Tryz.f141 [] 16 210 [27, 63, 62, 183, 192, 191, 190] 3 ?_
 repeat' first
  | (refine dx1 ?_; intro K hK)
  | with_reducible first | refine a0f (id := 6) [] 7 a0d yc fun K hK => ?_ | refine a0f (id := 12) [] 8 a0d yc fun K hK => ?_ | refine a0f (id := 17) [] 16 a0d yc fun K hK => ?_ | refine a0f (id := 22) [] 11 a0d yc fun K hK => ?_ | refine a0f (id := 55) [] 12 a0d yc fun K hK => ?_ | refine a2m ?_
  | (refine zj ?_; refine a1c yc (fun d hd => ?_) rfl (cl1M hCT hfk (a := X.a) (e := X.c) (hf := hf) hy hB ?_ ?_ hnr ⟨?_, ?_, ?_⟩ ha hc) ?_; (focus (cases hd; exact A5l rfl)); (focus rfl); (focus (first | rfl | (simp [ninL, ninO, a1h, nins, nin, zk, mapO, z15, hdN, *]; done))); (iterate 3 (focus (simp [yw]; done))); (rintro r' H' ⟨rfl, Z2, h2, rfl, hZ2, hT2⟩))
  | (refine zf ?_; refine a4y (j := 3) (hB _ _ _ _ hy hZ2) rfl ⟨rfl, Z2, h2, rfl, hZ2, hT2.congr (fun z => by simp [a1x, q, alO, gsr, rdC, wrC, h0, h1])⟩ trivial)
  | with_reducible first | refine a2w ?_ | refine a4r ?_ | refine wh ?_; intro K hK | refine yo ?_ | refine stpC ?_; intro T E hT hE | refine stp2 ?_ ?_ <;> intro h | refine yg ?_; clear hK K | refine yh ?_; clear hT hE T E
  | simp [*, -List.all_flatten, -List.all_eq_true, DEFM, fB, yu, hdN, zt, anR, y3, rmvs, za, FnD.row, Ins.row, zz]
theorem g9n (hp : VOk p) (hCT : CT p m fk) (hfk : fnOk Tp fk = true) (hf : f < p.fu.length) (hI : InsOk p p.fu[f] X) (hy : Shp p Y) (hB : BsM p 3 B) (q : X.op = 51) (h1 : ¬ X.b = 1) (h0 : ¬ 0 <= X.c) : FCr Tp Gl 141 [.ptr [81] 8 0 0, .agg [.int .i64 (f : Int), .int .i64 (pc : Int)], .agg X.row, .clo fk [] [.ptr [88] 1 0 0]] (HP [] B (MF p Y g)) (OutT p m B (a1x p f pc X) Y g) := by
 have hsv := a0h hp
 have fB : ∀ r, B (3 :: r) = none := fun r => (hB Y g Y g hy hy).fb 3 r yb
 have yl3 := hy.rn
 have yl4 := hy.cn
 have hrr := hp.regs (A5p hf)
 obtain ⟨yl1, yl2⟩ := hy.at hf
 obtain ⟨nr, hnr⟩ : ∃ nr : Nat, p.fu[f].regs = (nr : Int) := ⟨p.fu[f].regs.toNat, by have := hrr.p0; have := hrr.p1; omega⟩
 rw [hnr, A5r] at yl2
 have hnr64 : nr <= 64 := by have := hrr.r64; omega
 have hIa := hI.a
 have hIb := hI.b
 have hIc := hI.c
 have hi1 : ∀ (L : LF) (Z : Pts) (h : Bool), inH (HP L B (MF p Z h)) [88] := fun L Z h => a5m
 have hi2 : ∀ (L : LF) (Z : Pts) (h : Bool), inH (HP L B (MF p Z h)) [81] := fun L Z h => a1g a4j
 have hi3 : ∀ (L : LF) (Z : Pts) (h : Bool), Shp p Z -> inH (HP L B (MF p Z h)) [83, f] := fun L Z h hZ => a1g (a6t (hZ.at hf).1)
 have h0' : ¬ X.c ≥ 0 := h0
 refine zd Tryz.f141 [] 16 210 [27, 63, 62, 183, 192, 191, 190] 3 ?_
 repeat' first
  | (refine dx1 ?_; intro K hK)
  | with_reducible first | refine a0f (id := 6) [] 7 a0d yc fun K hK => ?_ | refine a0f (id := 12) [] 8 a0d yc fun K hK => ?_ | refine a0f (id := 17) [] 16 a0d yc fun K hK => ?_ | refine a0f (id := 22) [] 11 a0d yc fun K hK => ?_ | refine a0f (id := 55) [] 12 a0d yc fun K hK => ?_ | refine a2m ?_
  | (refine zf ?_; refine a4y (j := 3) (hB _ _ _ _ hy hy) rfl ⟨rfl, Y, g, rfl, hy, TR.id (by simp [a1x, q, alO, h0, h1])⟩ trivial)
  | with_reducible first | refine a2w ?_ | refine a4r ?_ | refine wh ?_; intro K hK | refine yo ?_ | refine stpC ?_; intro T E hT hE | refine stp2 ?_ ?_ <;> intro h | refine yg ?_; clear hK K | refine yh ?_; clear hT hE T E
  | simp [*, -List.all_flatten, -List.all_eq_true, DEFM, fB, yu, hdN, zt, anR, y3, rmvs, za, FnD.row, Ins.row, zz]
theorem f6x (hp : VOk p) (hCT : CT p m fk) (hfk : fnOk Tp fk = true) (hf : f < p.fu.length) (hI : InsOk p p.fu[f] X) (hy : Shp p Y) (hB : BsM p 3 B) (q18 : ¬ X.op = 18) (q21 : ¬ X.op = 21) (q22 : ¬ X.op = 22) (q23 : ¬ X.op = 23) (q24 : ¬ X.op = 24) (q3 : ¬ X.op = 3) (q19 : ¬ X.op = 19) (q20 : ¬ X.op = 20) (q25 : ¬ X.op = 25) (q33 : ¬ X.op = 33) (q35 : ¬ X.op = 35) (q34 : ¬ X.op = 34) (q36 : ¬ X.op = 36) (q47 : ¬ X.op = 47) (q38 : ¬ X.op = 38) (q48 : ¬ X.op = 48) (q51 : ¬ X.op = 51) (q26 : ¬ X.op = 26) (q28 : ¬ X.op = 28) (q31 : ¬ X.op = 31) (q27 : ¬ X.op = 27) (q29 : ¬ X.op = 29) (q32 : ¬ X.op = 32) : FCr Tp Gl 141 [.ptr [81] 8 0 0, .agg [.int .i64 (f : Int), .int .i64 (pc : Int)], .agg X.row, .clo fk [] [.ptr [88] 1 0 0]] (HP [] B (MF p Y g)) (OutT p m B (a1x p f pc X) Y g) := by
 have hsv := a0h hp
 have fB : ∀ r, B (3 :: r) = none := fun r => (hB Y g Y g hy hy).fb 3 r yb
 have yl3 := hy.rn
 have yl4 := hy.cn
 have hrr := hp.regs (A5p hf)
 obtain ⟨yl1, yl2⟩ := hy.at hf
 obtain ⟨nr, hnr⟩ : ∃ nr : Nat, p.fu[f].regs = (nr : Int) := ⟨p.fu[f].regs.toNat, by have := hrr.p0; have := hrr.p1; omega⟩
 rw [hnr, A5r] at yl2
 have hnr64 : nr <= 64 := by have := hrr.r64; omega
 have hIa := hI.a
 have hIb := hI.b
 have hIc := hI.c
 have hi1 : ∀ (L : LF) (Z : Pts) (h : Bool), inH (HP L B (MF p Z h)) [88] := fun L Z h => a5m
 have hi2 : ∀ (L : LF) (Z : Pts) (h : Bool), inH (HP L B (MF p Z h)) [81] := fun L Z h => a1g a4j
 have hi3 : ∀ (L : LF) (Z : Pts) (h : Bool), Shp p Z -> inH (HP L B (MF p Z h)) [83, f] := fun L Z h hZ => a1g (a6t (hZ.at hf).1)
 refine zd Tryz.f141 [] 16 210 [27, 63, 62, 183, 192, 191, 190] 3 ?_
 repeat' first
  | (refine dx1 ?_; intro K hK)
  | with_reducible first | refine a0f (id := 6) [] 7 a0d yc fun K hK => ?_ | refine a0f (id := 12) [] 8 a0d yc fun K hK => ?_ | refine a0f (id := 17) [] 16 a0d yc fun K hK => ?_ | refine a0f (id := 22) [] 11 a0d yc fun K hK => ?_ | refine a0f (id := 55) [] 12 a0d yc fun K hK => ?_ | refine a2m ?_
  | (refine zf ?_; refine a4y (j := 3) (hB _ _ _ _ hy hy) rfl ⟨rfl, Y, g, rfl, hy, TR.id (by simp [a1x, alO, *])⟩ trivial)
  | with_reducible first | refine a2w ?_ | refine a4r ?_ | refine wh ?_; intro K hK | refine yo ?_ | refine stpC ?_; intro T E hT hE | refine stp2 ?_ ?_ <;> intro h | refine yg ?_; clear hK K | refine yh ?_; clear hT hE T E
  | simp [*, -List.all_flatten, -List.all_eq_true, DEFM, fB, yu, hdN, zt, anR, y3, rmvs, za, FnD.row, Ins.row, zz]
theorem g9m (hp : VOk p) (hCT : CT p m fk) (hfk : fnOk Tp fk = true) (hf : f < p.fu.length) (hI : InsOk p p.fu[f] X) (hy : Shp p Y) (hB : BsM p 3 B) (q : X.op = 51) (h1 : X.b = 1) : FCr Tp Gl 141 [.ptr [81] 8 0 0, .agg [.int .i64 (f : Int), .int .i64 (pc : Int)], .agg X.row, .clo fk [] [.ptr [88] 1 0 0]] (HP [] B (MF p Y g)) (OutT p m B (a1x p f pc X) Y g) := by
 have hsv := a0h hp
 have fB : ∀ r, B (3 :: r) = none := fun r => (hB Y g Y g hy hy).fb 3 r yb
 have yl3 := hy.rn
 have yl4 := hy.cn
 have hrr := hp.regs (A5p hf)
 obtain ⟨yl1, yl2⟩ := hy.at hf
 obtain ⟨nr, hnr⟩ : ∃ nr : Nat, p.fu[f].regs = (nr : Int) := ⟨p.fu[f].regs.toNat, by have := hrr.p0; have := hrr.p1; omega⟩
 rw [hnr, A5r] at yl2
 have hnr64 : nr <= 64 := by have := hrr.r64; omega
 have hIa := hI.a
 have hIb := hI.b
 have hIc := hI.c
 have hi1 : ∀ (L : LF) (Z : Pts) (h : Bool), inH (HP L B (MF p Z h)) [88] := fun L Z h => a5m
 have hi2 : ∀ (L : LF) (Z : Pts) (h : Bool), inH (HP L B (MF p Z h)) [81] := fun L Z h => a1g a4j
 have hi3 : ∀ (L : LF) (Z : Pts) (h : Bool), Shp p Z -> inH (HP L B (MF p Z h)) [83, f] := fun L Z h hZ => a1g (a6t (hZ.at hf).1)
 have hcc := hI.c
 rw [q] at hcc
 have hcc := c9e (show opR p p.fu[f] X 99 X.c = true from hcc)
 have ha : isR p.fu[f] X.a := a2g (r := (rR X.op).1) hIa y7
 obtain ⟨a0, a1⟩ := id ha
 have aN : (X.a).toNat < nr := by omega
 have a2 : X.a < (nr : Int) := by omega
 have haS := hy.rok hf ha
 have hc : isR p.fu[f] X.c := show isR p.fu[f] X.c from ⟨by omega, hcc.1⟩
 obtain ⟨c0, c1⟩ := id hc
 have cN : (X.c).toNat < nr := by omega
 have c2 : X.c < (nr : Int) := by omega
 have hcS := hy.rok hf hc
 refine zd Tryz.f141 [] 16 210 [27, 63, 62, 183, 192, 191, 190] 3 ?_
 repeat' first
  | (refine dx1 ?_; intro K hK)
  | with_reducible first | refine a0f (id := 6) [] 7 a0d yc fun K hK => ?_ | refine a0f (id := 12) [] 8 a0d yc fun K hK => ?_ | refine a0f (id := 17) [] 16 a0d yc fun K hK => ?_ | refine a0f (id := 22) [] 11 a0d yc fun K hK => ?_ | refine a0f (id := 55) [] 12 a0d yc fun K hK => ?_ | refine a2m ?_
  | (refine zj ?_; refine a1c yc (fun d hd => ?_) rfl (cl2M hCT hfk (a := X.a) (e := X.c) (hf := hf) hy hB ?_ ?_ hnr ⟨?_, ?_, ?_⟩ ha hc) ?_; (focus (cases hd; exact A5l rfl)); (focus rfl); (focus (first | rfl | (simp [ninL, ninO, a1h, nins, nin, zk, mapO, z15, hdN, *]; done))); (iterate 3 (focus (simp [yw]; done))); (rintro r' H' ⟨rfl, Z2, h2, rfl, hZ2, hT2⟩))
  | (refine zf ?_; refine a4y (j := 3) (hB _ _ _ _ hy hZ2) rfl ⟨rfl, Z2, h2, rfl, hZ2, hT2.congr (fun z => by simp [a1x, q, alO, gsr, rdC, wrC, h1])⟩ trivial)
  | with_reducible first | refine a2w ?_ | refine a4r ?_ | refine wh ?_; intro K hK | refine yo ?_ | refine stpC ?_; intro T E hT hE | refine stp2 ?_ ?_ <;> intro h | refine yg ?_; clear hK K | refine yh ?_; clear hT hE T E
  | simp [*, -List.all_flatten, -List.all_eq_true, DEFM, fB, yu, hdN, zt, anR, y3, rmvs, za, FnD.row, Ins.row, zz]
theorem c_38 (hp : VOk p) (hCT : CT p m fk) (hfk : fnOk Tp fk = true) (hf : f < p.fu.length) (hI : InsOk p p.fu[f] X) (hy : Shp p Y) (hB : BsM p 3 B) (q : X.op = 38) : FCr Tp Gl 141 [.ptr [81] 8 0 0, .agg [.int .i64 (f : Int), .int .i64 (pc : Int)], .agg X.row, .clo fk [] [.ptr [88] 1 0 0]] (HP [] B (MF p Y g)) (OutT p m B (a1x p f pc X) Y g) := by
 have hsv := a0h hp
 have fB : ∀ r, B (3 :: r) = none := fun r => (hB Y g Y g hy hy).fb 3 r yb
 have yl3 := hy.rn
 have yl4 := hy.cn
 have hrr := hp.regs (A5p hf)
 obtain ⟨yl1, yl2⟩ := hy.at hf
 obtain ⟨nr, hnr⟩ : ∃ nr : Nat, p.fu[f].regs = (nr : Int) := ⟨p.fu[f].regs.toNat, by have := hrr.p0; have := hrr.p1; omega⟩
 rw [hnr, A5r] at yl2
 have hnr64 : nr <= 64 := by have := hrr.r64; omega
 have hIa := hI.a
 have hIb := hI.b
 have hIc := hI.c
 have hi1 : ∀ (L : LF) (Z : Pts) (h : Bool), inH (HP L B (MF p Z h)) [88] := fun L Z h => a5m
 have hi2 : ∀ (L : LF) (Z : Pts) (h : Bool), inH (HP L B (MF p Z h)) [81] := fun L Z h => a1g a4j
 have hi3 : ∀ (L : LF) (Z : Pts) (h : Bool), Shp p Z -> inH (HP L B (MF p Z h)) [83, f] := fun L Z h hZ => a1g (a6t (hZ.at hf).1)
 have hb : isR p.fu[f] X.b := a2g (r := (rR X.op).2.1) hIb y7
 obtain ⟨b0, b1⟩ := id hb
 have bN : (X.b).toNat < nr := by omega
 have b2 : X.b < (nr : Int) := by omega
 have hbS := hy.rok hf hb
 have hx := hI.x38 q
 have hcR : isR p.fu[f] X.c := a2g (r := (rR X.op).2.2) hIc y7
 have wc : IntKind.wrap .i64 (X.c + 1) = X.c + 1 := by have := hcR.1; have := hcR.2; rw [IntKind.wrap_i64]; omega
 have hc1 : isR p.fu[f] (X.c + 1) := ⟨by have := hcR.1; omega, by unfold W at hx; rw [wc] at hx; exact hx⟩
 refine zd Tryz.f141 [] 16 210 [27, 63, 62, 183, 192, 191, 190] 3 ?_
 repeat' first
  | (refine dx1 ?_; intro K hK)
  | with_reducible first | refine a0f (id := 6) [] 7 a0d yc fun K hK => ?_ | refine a0f (id := 12) [] 8 a0d yc fun K hK => ?_ | refine a0f (id := 17) [] 16 a0d yc fun K hK => ?_ | refine a0f (id := 22) [] 11 a0d yc fun K hK => ?_ | refine a0f (id := 55) [] 12 a0d yc fun K hK => ?_ | refine a2m ?_
  | (refine zj ?_; refine a1c yc (fun d hd => ?_) rfl (cl2M hCT hfk (a := X.b) (e := (X.c + 1)) (hf := hf) hy hB ?_ ?_ hnr ⟨?_, ?_, ?_⟩ hb hc1) ?_; (focus (cases hd; exact A5l rfl)); (focus rfl); (focus (first | rfl | (simp [ninL, ninO, a1h, nins, nin, zk, mapO, z15, hdN, *]; done))); (iterate 3 (focus (simp [yw]; done))); (rintro r' H' ⟨rfl, Z2, h2, rfl, hZ2, hT2⟩))
  | (refine zf ?_; refine a4y (j := 3) (hB _ _ _ _ hy hZ2) rfl ⟨rfl, Z2, h2, rfl, hZ2, hT2.congr (fun z => by simp [a1x, q, alO, gsr, rdC, wrC])⟩ trivial)
  | with_reducible first | refine a2w ?_ | refine a4r ?_ | refine wh ?_; intro K hK | refine yo ?_ | refine stpC ?_; intro T E hT hE | refine stp2 ?_ ?_ <;> intro h | refine yg ?_; clear hK K | refine yh ?_; clear hT hE T E
  | simp [*, -List.all_flatten, -List.all_eq_true, DEFM, fB, yu, hdN, zt, anR, y3, rmvs, za, FnD.row, Ins.row, zz]
theorem c_25 (hp : VOk p) (hCT : CT p m fk) (hfk : fnOk Tp fk = true) (hf : f < p.fu.length) (hI : InsOk p p.fu[f] X) (hy : Shp p Y) (hB : BsM p 3 B) (q : X.op = 25) : FCr Tp Gl 141 [.ptr [81] 8 0 0, .agg [.int .i64 (f : Int), .int .i64 (pc : Int)], .agg X.row, .clo fk [] [.ptr [88] 1 0 0]] (HP [] B (MF p Y g)) (OutT p m B (a1x p f pc X) Y g) := by
 have hsv := a0h hp
 have fB : ∀ r, B (3 :: r) = none := fun r => (hB Y g Y g hy hy).fb 3 r yb
 have yl3 := hy.rn
 have yl4 := hy.cn
 have hrr := hp.regs (A5p hf)
 obtain ⟨yl1, yl2⟩ := hy.at hf
 obtain ⟨nr, hnr⟩ : ∃ nr : Nat, p.fu[f].regs = (nr : Int) := ⟨p.fu[f].regs.toNat, by have := hrr.p0; have := hrr.p1; omega⟩
 rw [hnr, A5r] at yl2
 have hnr64 : nr <= 64 := by have := hrr.r64; omega
 have hIa := hI.a
 have hIb := hI.b
 have hIc := hI.c
 have hi1 : ∀ (L : LF) (Z : Pts) (h : Bool), inH (HP L B (MF p Z h)) [88] := fun L Z h => a5m
 have hi2 : ∀ (L : LF) (Z : Pts) (h : Bool), inH (HP L B (MF p Z h)) [81] := fun L Z h => a1g a4j
 have hi3 : ∀ (L : LF) (Z : Pts) (h : Bool), Shp p Z -> inH (HP L B (MF p Z h)) [83, f] := fun L Z h hZ => a1g (a6t (hZ.at hf).1)
 have ha : isR p.fu[f] X.a := a2g (r := (rR X.op).1) hIa y7
 obtain ⟨a0, a1⟩ := id ha
 have aN : (X.a).toNat < nr := by omega
 have a2 : X.a < (nr : Int) := by omega
 have haS := hy.rok hf ha
 have h0S : isR p.fu[f] 0 := ⟨by omega, (hI.x25 q).2⟩
 refine zd Tryz.f141 [] 16 210 [27, 63, 62, 183, 192, 191, 190] 3 ?_
 repeat' first
  | (refine dx1 ?_; intro K hK)
  | with_reducible first | refine a0f (id := 6) [] 7 a0d yc fun K hK => ?_ | refine a0f (id := 12) [] 8 a0d yc fun K hK => ?_ | refine a0f (id := 17) [] 16 a0d yc fun K hK => ?_ | refine a0f (id := 22) [] 11 a0d yc fun K hK => ?_ | refine a0f (id := 55) [] 12 a0d yc fun K hK => ?_ | refine a2m ?_
  | (refine zj ?_; refine a1c yc (fun d hd => ?_) rfl (cl1M hCT hfk (a := 0) (e := X.a) (hf := hf) hy hB ?_ ?_ hnr ⟨?_, ?_, ?_⟩ h0S ha) ?_; (focus (cases hd; exact A5l rfl)); (focus rfl); (focus (first | rfl | (simp [ninL, ninO, a1h, nins, nin, zk, mapO, z15, hdN, *]; done))); (iterate 3 (focus (simp [yw]; done))); (rintro r' H' ⟨rfl, Z2, h2, rfl, hZ2, hT2⟩))
  | (refine zf ?_; refine a4y (j := 3) (hB _ _ _ _ hy hZ2) rfl ⟨rfl, Z2, h2, rfl, hZ2, hT2.congr (fun z => by simp [a1x, q, alO, gsr, rdC, wrC, gs0])⟩ trivial)
  | with_reducible first | refine a2w ?_ | refine a4r ?_ | refine wh ?_; intro K hK | refine yo ?_ | refine stpC ?_; intro T E hT hE | refine stp2 ?_ ?_ <;> intro h | refine yg ?_; clear hK K | refine yh ?_; clear hT hE T E
  | simp [*, -List.all_flatten, -List.all_eq_true, DEFM, fB, yu, hdN, zt, anR, y3, rmvs, za, FnD.row, Ins.row, zz]
open Classical in
noncomputable def rZ (c : List Ins) (k : Nat) : List Bool := (List.range c.length).map fun i => decide (i < k /\ Rc c (hd c i))
theorem e9o (c : List Ins) (k : Nat) : (rZ c k).length = c.length := by simp [rZ]
theorem rZ_0 (c : List Ins) : rZ c 0 = List.replicate c.length false := by
 unfold rZ
 refine A0e yd fun i h1 h2 => ?_
 rw [A2s, List.getElem_replicate]
 simp
theorem g0v (c : List Ins) : rZ c c.length = a2d c := by
 unfold rZ a2d
 refine A1f fun i hi => decide_eq_decide.2 ?_
 rw [A2k] at hi
 simp [hi]
theorem g0x {k i : Nat} (h : i < (rZ c k).length) : (rZ c k)[i] = true ↔ i < k /\ Rc c (hd c i) := by simp [rZ]
theorem rZ_s {k : Nat} (hk : k < c.length) (hx : hd c k < (rcL c).length) : (rZ c k).set k (rcL c)[hd c k] = rZ c (k + 1) := by
 refine d6v (by simp [e9o]) fun i h1 h2 => ?_
 rw [g0x, A1e]
 split
 . rename_i e; subst e
   rw [d6s]
   exact ⟨fun h => ⟨by omega, h⟩, fun h => h.2⟩
 . rename_i e
   rw [g0x]
   exact ⟨fun h => ⟨by omega, h.2⟩, fun h => ⟨by omega, h.2⟩⟩
theorem e3p {nm : ByteArray} {pa rg : Int} (hc : CodeOk c) : Pq 18 [.agg [.str nm, .int .i64 pa, .int .i64 rg, .list 5 (inss c)]] (.list 1 (a0k (a2d c))) := by
 have h1000 := hc.n1000
 have hrc0 := a9k c
 have hs1 : (c.length : Int) <= 4611686018427387904 := by omega
 have hs2 : (c.length : Int) <= 281474976710656 := by omega
 refine yq Tryz.f18 [.tmp 2] 6 27 [] 0 ?_
 repeat' first
  | (refine yi ?_; refine a0e (σ := {k : Nat // k <= c.length}) (fun y => [(5, .int .i64 (y.1 : Int))]) [] (fun y => []) [] (fun y => [([0, 10], .cells 4 1 (a0k (rZ c y.1)))]) (fun y => noH) (fun y => c.length - y.1) ⟨0, by simp⟩ (gk3 (j := 0) [] (Bs.pc _) z27 z27 z27 z27 z27 z27 z27) ?_; rintro ⟨k, hk⟩; simp only [lpS, LPXB]; (try dsimp only at hk); have hrl := e9o c k; have hrc := a9k c; rcases a0c hk with hlt | ⟨hlt, e⟩; rotate_left; subst e; have hend := g0v c; have htk : (a2d c).take c.length = a2d c := A6a (by rw [a4w]; exact A5s _); have hrl2 := a4w c; rotate_left; have wi := wli hlt ya; have hhl := b2o c k; have hhl2 : hd c k < c.length := ya; have hx : hd c k < (rcL c).length := ya; have hgz : (a0k (rZ c k))[k]? = some [.bool ((rZ c k)[k]'ya)] := a1l ya; have hbm := a1b (rZ c k) k ((rcL c)[hd c k]'hx) ya; rw [rZ_s hlt hx] at hbm; rotate_left)
  | (refine ye ?_; refine a0b (⟨k + 1, by omega⟩) yg4 yf)
  | refine yo ?_
  | (refine stpK ?_; intro K hK)
  | (refine stpC ?_; intro T E hT hE)
  | (refine stp2 ?_ ?_ <;> intro h)
  | refine cpG (f9m hc) ?_
  | refine cpG (d5a hc hlt) ?_
  | (refine yg ?_; clear hK K)
  | (refine yh ?_; clear hT hE T E)
  | simp [*, -List.all_flatten, -List.all_eq_true, yl, asR, a0q, wa, a1w, z14, a1r, a2b, a9w]
end Go.Je
