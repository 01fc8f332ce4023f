/- Part. -/
import Derived.Test.YtfhhgjbcenhdeaaGreatDoorS24
set_option linter.all false
set_option maxRecDepth 100000
set_option maxHeartbeats 0
namespace Go.Je
open Go Go.FM Go.Gv Go.Proofs
variable {B : Heap} {X : Ins} {Y : Pts} {f pc : Nat} {fk : FuncId} {g m : Bool} {p : Pg}
theorem c_18 (hp : VOk p) (hCT : CT p m fk) (hfk : fnOk Tp fk = true) (hf : f < p.fu.length) (hI : InsOk p p.fu[f] X) (hy : Shp p Y) (hB : BsM p 3 B) (q : X.op = 18) : FCr Tp Gl 141 [.ptr [81] 8 0 0, .agg [.int .i64 (f : Int), .int .i64 (pc : Int)], .agg X.row, .clo fk [] [.ptr [88] 1 0 0]] (HP [] B (MF p Y g)) (OutT p m B (a1x p f pc X) Y g) := by
 have hsv := a0h hp
 have fB : ∀ r, B (3 :: r) = none := fun r => (hB Y g Y g hy hy).fb 3 r yb
 have yl3 := hy.rn
 have yl4 := hy.cn
 have hrr := hp.regs (A5p hf)
 obtain ⟨yl1, yl2⟩ := hy.at hf
 obtain ⟨nr, hnr⟩ : ∃ nr : Nat, p.fu[f].regs = (nr : Int) := ⟨p.fu[f].regs.toNat, by have := hrr.p0; have := hrr.p1; omega⟩
 rw [hnr, A5r] at yl2
 have hnr64 : nr <= 64 := by have := hrr.r64; omega
 have hIa := hI.a
 have hIb := hI.b
 have hIc := hI.c
 have hi1 : ∀ (L : LF) (Z : Pts) (h : Bool), inH (HP L B (MF p Z h)) [88] := fun L Z h => a5m
 have hi2 : ∀ (L : LF) (Z : Pts) (h : Bool), inH (HP L B (MF p Z h)) [81] := fun L Z h => a1g a4j
 have hi3 : ∀ (L : LF) (Z : Pts) (h : Bool), Shp p Z -> inH (HP L B (MF p Z h)) [83, f] := fun L Z h hZ => a1g (a6t (hZ.at hf).1)
 have ha : isR p.fu[f] X.a := a2g (r := (rR X.op).1) hIa y7
 obtain ⟨a0, a1⟩ := id ha
 have aN : (X.a).toNat < nr := by omega
 have a2 : X.a < (nr : Int) := by omega
 have haS := hy.rok hf ha
 have hk : okA (a0a p).length [0] := ok1 ya (by have := a5z p; omega)
 refine zd Tryz.f141 [] 16 210 [27, 63, 62, 183, 192, 191, 190] 3 ?_
 repeat' first
  | (refine dx1 ?_; intro K hK)
  | with_reducible first | refine a0f (id := 6) [] 7 a0d yc fun K hK => ?_ | refine a0f (id := 12) [] 8 a0d yc fun K hK => ?_ | refine a0f (id := 17) [] 16 a0d yc fun K hK => ?_ | refine a0f (id := 22) [] 11 a0d yc fun K hK => ?_ | refine a0f (id := 55) [] 12 a0d yc fun K hK => ?_ | refine a2m ?_ | refine hfc1 [3, 95] (mapO [0]) (fun H2 _ h0 => e3l 0 h0) ?_
  | (refine zj ?_; refine a1c hfk (fun d hd => ?_) rfl (b4u (.r f X.a.toNat) [3, 95] hCT hB yb hy haS hk z2e rfl ?_) ?_; (focus (cases hd; exact A5l rfl)); (focus (first | rfl | (simp [ninL, ninO, a1h, nins, nin, zk, mapO, a1f, ze, hdN, *]; done))); (rintro r' H' ⟨rfl, Z2, h2, rfl, hZ2, hT2⟩))
  | (refine zf ?_; refine a4y (j := 3) (hB _ _ _ _ hy hZ2) rfl ⟨rfl, Z2, h2, rfl, hZ2, hT2.congr (fun z => by simp [a1x, q, alO, inS, gsr, b7g, rdC, wrC])⟩ trivial)
  | with_reducible first | refine a2w ?_ | refine a4r ?_ | refine wh ?_; intro K hK | refine yo ?_ | refine stpC ?_; intro T E hT hE | refine stp2 ?_ ?_ <;> intro h | refine yg ?_; clear hK K | refine yh ?_; clear hT hE T E
  | simp [*, -List.all_flatten, -List.all_eq_true, DEFM, fB, yu, hdN, zt, anR, y3, rmvs, za, FnD.row, Ins.row, zz]
theorem c_f3 (hp : VOk p) (hCT : CT p m fk) (hfk : fnOk Tp fk = true) (hf : f < p.fu.length) (hI : InsOk p p.fu[f] X) (hy : Shp p Y) (hB : BsM p 3 B) (q : X.op = 3 \/ X.op = 19 \/ X.op = 20) : FCr Tp Gl 141 [.ptr [81] 8 0 0, .agg [.int .i64 (f : Int), .int .i64 (pc : Int)], .agg X.row, .clo fk [] [.ptr [88] 1 0 0]] (HP [] B (MF p Y g)) (OutT p m B (a1x p f pc X) Y g) := by
 rcases q with q | q | q
 all_goals
  have hsv := a0h hp
  have fB : ∀ r, B (3 :: r) = none := fun r => (hB Y g Y g hy hy).fb 3 r yb
  have yl3 := hy.rn
  have yl4 := hy.cn
  have hrr := hp.regs (A5p hf)
  obtain ⟨yl1, yl2⟩ := hy.at hf
  obtain ⟨nr, hnr⟩ : ∃ nr : Nat, p.fu[f].regs = (nr : Int) := ⟨p.fu[f].regs.toNat, by have := hrr.p0; have := hrr.p1; omega⟩
  rw [hnr, A5r] at yl2
  have hnr64 : nr <= 64 := by have := hrr.r64; omega
  have hIa := hI.a
  have hIb := hI.b
  have hIc := hI.c
  have hi1 : ∀ (L : LF) (Z : Pts) (h : Bool), inH (HP L B (MF p Z h)) [88] := fun L Z h => a5m
  have hi2 : ∀ (L : LF) (Z : Pts) (h : Bool), inH (HP L B (MF p Z h)) [81] := fun L Z h => a1g a4j
  have hi3 : ∀ (L : LF) (Z : Pts) (h : Bool), Shp p Z -> inH (HP L B (MF p Z h)) [83, f] := fun L Z h hZ => a1g (a6t (hZ.at hf).1)
  have ha : isR p.fu[f] X.a := a2g (r := (rR X.op).1) hIa y7
  obtain ⟨a0, a1⟩ := id ha
  have aN : (X.a).toNat < nr := by omega
  have a2 : X.a < (nr : Int) := by omega
  have haS := hy.rok hf ha
  have hb : isR p.fu[f] X.b := a2g (r := (rR X.op).2.1) hIb y7
  obtain ⟨b0, b1⟩ := id hb
  have bN : (X.b).toNat < nr := by omega
  have b2 : X.b < (nr : Int) := by omega
  have hbS := hy.rok hf hb
  refine zd Tryz.f141 [] 16 210 [27, 63, 62, 183, 192, 191, 190] 3 ?_
  repeat' first
   | (refine dx1 ?_; intro K hK)
   | with_reducible first | refine a0f (id := 6) [] 7 a0d yc fun K hK => ?_ | refine a0f (id := 12) [] 8 a0d yc fun K hK => ?_ | refine a0f (id := 17) [] 16 a0d yc fun K hK => ?_ | refine a0f (id := 22) [] 11 a0d yc fun K hK => ?_ | refine a0f (id := 55) [] 12 a0d yc fun K hK => ?_ | refine a2m ?_
   | (refine zj ?_; refine a1c hfk (fun d hd => ?_) rfl (b4u (.r f X.a.toNat) (SL.r f X.b.toNat).loc hCT hB yb hy haS (hy.gets _) (a4t hbS) rfl ?_) ?_; (focus (cases hd; exact A5l rfl)); (focus (first | rfl | (simp [ninL, ninO, a1h, nins, nin, zk, mapO, a1f, ze, hdN, *]; done))); (rintro r' H' ⟨rfl, Z2, h2, rfl, hZ2, hT2⟩))
   | (refine zf ?_; refine a4y (j := 3) (hB _ _ _ _ hy hZ2) rfl ⟨rfl, Z2, h2, rfl, hZ2, g8q hT2 (fun z => by simp [a1x, q, alO, gsr, b7g])⟩ trivial)
   | with_reducible first | refine a2w ?_ | refine a4r ?_ | refine wh ?_; intro K hK | refine yo ?_ | refine stpC ?_; intro T E hT hE | refine stp2 ?_ ?_ <;> intro h | refine yg ?_; clear hK K | refine yh ?_; clear hT hE T E
   | simp [*, -List.all_flatten, -List.all_eq_true, DEFM, fB, yu, hdN, zt, anR, y3, rmvs, za, FnD.row, Ins.row, zz]
theorem f6y (hp : VOk p) (hCT : CT p m fk) (hfk : fnOk Tp fk = true) (hf : f < p.fu.length) (hI : InsOk p p.fu[f] X) (hy : Shp p Y) (hB : BsM p 3 B) (q : X.op = 34 \/ X.op = 36 \/ X.op = 47) : FCr Tp Gl 141 [.ptr [81] 8 0 0, .agg [.int .i64 (f : Int), .int .i64 (pc : Int)], .agg X.row, .clo fk [] [.ptr [88] 1 0 0]] (HP [] B (MF p Y g)) (OutT p m B (a1x p f pc X) Y g) := by
 rcases q with q | q | q
 all_goals
  have hsv := a0h hp
  have fB : ∀ r, B (3 :: r) = none := fun r => (hB Y g Y g hy hy).fb 3 r yb
  have yl3 := hy.rn
  have yl4 := hy.cn
  have hrr := hp.regs (A5p hf)
  obtain ⟨yl1, yl2⟩ := hy.at hf
  obtain ⟨nr, hnr⟩ : ∃ nr : Nat, p.fu[f].regs = (nr : Int) := ⟨p.fu[f].regs.toNat, by have := hrr.p0; have := hrr.p1; omega⟩
  rw [hnr, A5r] at yl2
  have hnr64 : nr <= 64 := by have := hrr.r64; omega
  have hIa := hI.a
  have hIb := hI.b
  have hIc := hI.c
  have hi1 : ∀ (L : LF) (Z : Pts) (h : Bool), inH (HP L B (MF p Z h)) [88] := fun L Z h => a5m
  have hi2 : ∀ (L : LF) (Z : Pts) (h : Bool), inH (HP L B (MF p Z h)) [81] := fun L Z h => a1g a4j
  have hi3 : ∀ (L : LF) (Z : Pts) (h : Bool), Shp p Z -> inH (HP L B (MF p Z h)) [83, f] := fun L Z h hZ => a1g (a6t (hZ.at hf).1)
  have ha : isR p.fu[f] X.a := a2g (r := (rR X.op).1) hIa y7
  obtain ⟨a0, a1⟩ := id ha
  have aN : (X.a).toNat < nr := by omega
  have a2 : X.a < (nr : Int) := by omega
  have haS := hy.rok hf ha
  have hb : isR p.fu[f] X.b := a2g (r := (rR X.op).2.1) hIb y7
  obtain ⟨b0, b1⟩ := id hb
  have bN : (X.b).toNat < nr := by omega
  have b2 : X.b < (nr : Int) := by omega
  have hbS := hy.rok hf hb
  refine zd Tryz.f141 [] 16 210 [27, 63, 62, 183, 192, 191, 190] 3 ?_
  repeat' first
   | (refine dx1 ?_; intro K hK)
   | with_reducible first | refine a0f (id := 6) [] 7 a0d yc fun K hK => ?_ | refine a0f (id := 12) [] 8 a0d yc fun K hK => ?_ | refine a0f (id := 17) [] 16 a0d yc fun K hK => ?_ | refine a0f (id := 22) [] 11 a0d yc fun K hK => ?_ | refine a0f (id := 55) [] 12 a0d yc fun K hK => ?_ | refine a2m ?_
   | (refine zj ?_; refine a1c yc (fun d hd => ?_) rfl (cl2M hCT hfk (a := X.a) (e := X.b) (hf := hf) hy hB ?_ ?_ hnr ⟨?_, ?_, ?_⟩ ha hb) ?_; (focus (cases hd; exact A5l rfl)); (focus rfl); (focus (first | rfl | (simp [ninL, ninO, a1h, nins, nin, zk, mapO, z15, hdN, *]; done))); (iterate 3 (focus (simp [yw]; done))); (rintro r' H' ⟨rfl, Z2, h2, rfl, hZ2, hT2⟩))
   | (refine zf ?_; refine a4y (j := 3) (hB _ _ _ _ hy hZ2) rfl ⟨rfl, Z2, h2, rfl, hZ2, hT2.congr (fun z => by simp [a1x, q, alO, gsr, rdC, wrC])⟩ trivial)
   | with_reducible first | refine a2w ?_ | refine a4r ?_ | refine wh ?_; intro K hK | refine yo ?_ | refine stpC ?_; intro T E hT hE | refine stp2 ?_ ?_ <;> intro h | refine yg ?_; clear hK K | refine yh ?_; clear hT hE T E
   | simp [*, -List.all_flatten, -List.all_eq_true, DEFM, fB, yu, hdN, zt, anR, y3, rmvs, za, FnD.row, Ins.row, zz]
theorem f7a (hp : VOk p) (hCT : CT p m fk) (hfk : fnOk Tp fk = true) (hf : f < p.fu.length) (hI : InsOk p p.fu[f] X) (hy : Shp p Y) (hB : BsM p 3 B) (q : X.op = 21 \/ X.op = 22 \/ X.op = 23) : FCr Tp Gl 141 [.ptr [81] 8 0 0, .agg [.int .i64 (f : Int), .int .i64 (pc : Int)], .agg X.row, .clo fk [] [.ptr [88] 1 0 0]] (HP [] B (MF p Y g)) (OutT p m B (a1x p f pc X) Y g) := by
 rcases q with q | q | q
 all_goals
  have hsv := a0h hp
  have fB : ∀ r, B (3 :: r) = none := fun r => (hB Y g Y g hy hy).fb 3 r yb
  have yl3 := hy.rn
  have yl4 := hy.cn
  have hrr := hp.regs (A5p hf)
  obtain ⟨yl1, yl2⟩ := hy.at hf
  obtain ⟨nr, hnr⟩ : ∃ nr : Nat, p.fu[f].regs = (nr : Int) := ⟨p.fu[f].regs.toNat, by have := hrr.p0; have := hrr.p1; omega⟩
  rw [hnr, A5r] at yl2
  have hnr64 : nr <= 64 := by have := hrr.r64; omega
  have hIa := hI.a
  have hIb := hI.b
  have hIc := hI.c
  have hi1 : ∀ (L : LF) (Z : Pts) (h : Bool), inH (HP L B (MF p Z h)) [88] := fun L Z h => a5m
  have hi2 : ∀ (L : LF) (Z : Pts) (h : Bool), inH (HP L B (MF p Z h)) [81] := fun L Z h => a1g a4j
  have hi3 : ∀ (L : LF) (Z : Pts) (h : Bool), Shp p Z -> inH (HP L B (MF p Z h)) [83, f] := fun L Z h hZ => a1g (a6t (hZ.at hf).1)
  have ha : isR p.fu[f] X.a := a2g (r := (rR X.op).1) hIa y7
  obtain ⟨a0, a1⟩ := id ha
  have aN : (X.a).toNat < nr := by omega
  have a2 : X.a < (nr : Int) := by omega
  have haS := hy.rok hf ha
  have hoL := b0g p ((f : Int), (pc : Int))
  have hlk := fun (Z : Pts) (h : Bool) (L : LF) => g1x (p := p) (B := B) (Z := Z) (h := h) f pc L
  generalize hO : objR (a0a p) ((f : Int), (pc : Int)) = O at hoL hlk
  have hk : okA (a0a p).length [(O : Int)] := ok1 ya ya
  refine zd Tryz.f141 [] 16 210 [27, 63, 62, 183, 192, 191, 190] 3 ?_
  repeat' first
   | (refine dx1 ?_; intro K hK)
   | with_reducible first | refine a0f (id := 6) [] 7 a0d yc fun K hK => ?_ | refine a0f (id := 12) [] 8 a0d yc fun K hK => ?_ | refine a0f (id := 17) [] 16 a0d yc fun K hK => ?_ | refine a0f (id := 22) [] 11 a0d yc fun K hK => ?_ | refine a0f (id := 55) [] 12 a0d yc fun K hK => ?_ | refine a2m ?_ | refine hfc1 [3, 95] (mapO [(O : Int)]) (fun H2 _ h0 => e3l (O : Int) h0) ?_
   | (refine zj ?_; refine a1c hfk (fun d hd => ?_) rfl (b4u (.r f X.a.toNat) [3, 95] hCT hB yb hy haS hk z2e rfl ?_) ?_; (focus (cases hd; exact A5l rfl)); (focus (first | rfl | (simp [ninL, ninO, a1h, nins, nin, zk, mapO, a1f, ze, hdN, *]; done))); (rintro r' H' ⟨rfl, Z2, h2, rfl, hZ2, hT2⟩))
   | (refine zf ?_; refine a4y (j := 3) (hB _ _ _ _ hy hZ2) rfl ⟨rfl, Z2, h2, rfl, hZ2, hT2.congr (fun z => by simp [a1x, q, alO, inS, gsr, hO])⟩ trivial)
   | with_reducible first | refine a2w ?_ | refine a4r ?_ | refine wh ?_; intro K hK | refine yo ?_ | refine stpC ?_; intro T E hT hE | refine stp2 ?_ ?_ <;> intro h | refine yg ?_; clear hK K | refine yh ?_; clear hT hE T E
   | simp [*, -List.all_flatten, -List.all_eq_true, DEFM, fB, yu, hdN, zt, anR, y3, rmvs, za, FnD.row, Ins.row, zz]
theorem c_24 (hp : VOk p) (hCT : CT p m fk) (hfk : fnOk Tp fk = true) (hf : f < p.fu.length) (hI : InsOk p p.fu[f] X) (hy : Shp p Y) (hB : BsM p 3 B) (q : X.op = 24) : FCr Tp Gl 141 [.ptr [81] 8 0 0, .agg [.int .i64 (f : Int), .int .i64 (pc : Int)], .agg X.row, .clo fk [] [.ptr [88] 1 0 0]] (HP [] B (MF p Y g)) (OutT p m B (a1x p f pc X) Y g) := by
 have hsv := a0h hp
 have fB : ∀ r, B (3 :: r) = none := fun r => (hB Y g Y g hy hy).fb 3 r yb
 have yl3 := hy.rn
 have yl4 := hy.cn
 have hrr := hp.regs (A5p hf)
 obtain ⟨yl1, yl2⟩ := hy.at hf
 obtain ⟨nr, hnr⟩ : ∃ nr : Nat, p.fu[f].regs = (nr : Int) := ⟨p.fu[f].regs.toNat, by have := hrr.p0; have := hrr.p1; omega⟩
 rw [hnr, A5r] at yl2
 have hnr64 : nr <= 64 := by have := hrr.r64; omega
 have hIa := hI.a
 have hIb := hI.b
 have hIc := hI.c
 have hi1 : ∀ (L : LF) (Z : Pts) (h : Bool), inH (HP L B (MF p Z h)) [88] := fun L Z h => a5m
 have hi2 : ∀ (L : LF) (Z : Pts) (h : Bool), inH (HP L B (MF p Z h)) [81] := fun L Z h => a1g a4j
 have hi3 : ∀ (L : LF) (Z : Pts) (h : Bool), Shp p Z -> inH (HP L B (MF p Z h)) [83, f] := fun L Z h hZ => a1g (a6t (hZ.at hf).1)
 have ha : isR p.fu[f] X.a := a2g (r := (rR X.op).1) hIa y7
 obtain ⟨a0, a1⟩ := id ha
 have aN : (X.a).toNat < nr := by omega
 have a2 : X.a < (nr : Int) := by omega
 have haS := hy.rok hf ha
 have hoL := b0g p ((f : Int), (pc : Int))
 have hlk := fun (Z : Pts) (h : Bool) (L : LF) => g1x (p := p) (B := B) (Z := Z) (h := h) f pc L
 generalize hO : objR (a0a p) ((f : Int), (pc : Int)) = O at hoL hlk
 have hk : okA (a0a p).length [(O : Int)] := ok1 ya ya
 have hx := hI.x24 q
 have hc0 : 0 <= X.c := by have := hI.c; rw [q] at this; simp [rR, opR] at this; exact this.1
 have hx1 : X.a + X.c < (nr : Int) := by have := hx.1; unfold W at this; rw [IntKind.wrap_i64] at this; omega
 obtain ⟨cn, hcn⟩ : ∃ cn : Nat, X.c = (cn : Int) := ⟨X.c.toNat, by omega⟩
 have hcN : X.c.toNat = cn := by omega
 have hcl : O < (a0a p).length := hoL
 refine zd Tryz.f141 [] 16 210 [27, 63, 62, 183, 192, 191, 190] 3 ?_
 repeat' first
  | (refine dx1 ?_; intro K hK)
  | with_reducible first | refine a0f (id := 6) [] 7 a0d yc fun K hK => ?_ | refine a0f (id := 12) [] 8 a0d yc fun K hK => ?_ | refine a0f (id := 17) [] 16 a0d yc fun K hK => ?_ | refine a0f (id := 22) [] 11 a0d yc fun K hK => ?_ | refine a0f (id := 55) [] 12 a0d yc fun K hK => ?_ | refine a2m ?_ | refine hfc1 [3, 95] (mapO [(O : Int)]) (fun H2 _ h0 => e3l (O : Int) h0) ?_
  | (refine zj ?_; refine a1c hfk (fun d hd => ?_) rfl (b4u (.r f X.a.toNat) [3, 95] hCT hB yb hy haS hk z2e rfl ?_) ?_; (focus (cases hd; exact A5l rfl)); (focus (first | rfl | (simp [ninL, ninO, a1h, nins, nin, zk, mapO, a1f, ze, hdN, *]; done))); (rintro r' H' ⟨rfl, Z2, h2, rfl, hZ2, hT2⟩))
  | (refine yi ?_; refine a0e (σ := {x : Nat × (Pts × Bool) // x.1 <= cn /\ Shp p x.2.1 /\ TR m (fun z => subR (rg z f X.a) [(O : Int)] /\ ckC f X.a O x.1 z) (fun z => subR (rg z f X.a) [(O : Int)] /\ ckC f X.a O x.1 z) Y g x.2.1 x.2.2}) (fun y => [(12, .undef)]) [62] (fun y => [(63, .int .i64 (y.1.1 : Int))]) [[3, 95]] (fun y => []) (fun y => MF p y.1.2.1 y.1.2.2) (fun y => cn - y.1.1) ⟨(0, (Z2, h2)), A2a _, hZ2, hT2.congr (fun z => by simp [inS, gsr, g9f])⟩ (gk3i (j := 3) [] (hB _ _ _ _ hy hZ2) yk yk yk yk yk yk yk) ?_; rintro ⟨⟨k, ⟨V, v⟩⟩, hk2, hV, hT3⟩; simp only [lpS, LPXB]; (try dsimp only at hk2 hV hT3); obtain ⟨v1, v2⟩ := hV.at hf; rw [hnr, A5r] at v2; have v3 := hV.rn; have v4 := hV.cn; rcases cl2 hk2 ya with ⟨hlk, wk⟩ | ⟨hlk, rfl⟩; have w1 : IntKind.wrap .i64 (X.a + 1) = X.a + 1 := zh; have w2 : IntKind.wrap .i64 (X.a + 1 + (k : Int)) = X.a + ((k : Int) + 1) := zh; have u2 : X.a + ((k : Int) + 1) < (nr : Int) := ya; have u3 : 0 <= X.a + ((k : Int) + 1) := ya; have u4 : (X.a + ((k : Int) + 1)).toNat < nr := ya; have hfr := hV.rok hf (a := X.a + ((k : Int) + 1)) ⟨u3, by omega⟩; have hto := hV.cok (o := (O : Int)) ya ya; have hto2 : (SL.c O).ok V := (by simpa using hto))
  | (refine zj ?_; refine a1c hfk (fun d hd => ?_) rfl (b4u (.c O) (SL.r f (X.a + ((k : Int) + 1)).toNat).loc hCT hB yb hV hto2 (hV.gets (.r f (X.a + ((k : Int) + 1)).toNat)) (a4t hfr) rfl ?_) ?_; (focus (cases hd; exact A5l rfl)); (focus (first | rfl | (simp [ninL, ninO, a1h, nins, nin, zk, mapO, a1f, ze, hdN, *]; done))); (rintro r' H' ⟨rfl, V2, v2_, rfl, hV2, hT4⟩))
  | (refine ye ?_; refine a0b (⟨(k + 1, (V2, v2_)), by omega, hV2, hT3.stepk hT4 (fun z => by rw [g9e, and_assoc])⟩) (gk3i (j := 3) [] (hB _ _ _ _ hy hV2) yk yk yk yk yk yk yk) yf)
  | (refine zf ?_; refine a4y (j := 3) (hB _ _ _ _ hy hV) rfl ⟨rfl, V, v, rfl, hV, hT3.congr (fun z => by simp [a1x, q, alO, hO, hcN, ckC])⟩ trivial)
  | with_reducible first | refine a2w ?_ | refine a4r ?_ | refine wh ?_; intro K hK | refine yo ?_ | refine stpC ?_; intro T E hT hE | refine stp2 ?_ ?_ <;> intro h | refine yg ?_; clear hK K | refine yh ?_; clear hT hE T E
  | simp [*, -List.all_flatten, -List.all_eq_true, DEFM, fB, yu, hdN, zt, anR, y3, rmvs, za, FnD.row, Ins.row, zz]
end Go.Je
