/- Parts of the proof. -/
import Derived.Test.YtfhhgjbcenhdeaaGreatDoorF23
set_option linter.unusedSimpArgs false
set_option linter.unusedVariables false
namespace Go.Je
open Go Go.FM Go.Gv Go.Proofs
set_option maxRecDepth 100000
set_option maxHeartbeats 40000000
theorem f9g {p : Pg} (hp : VOk p) {m : Bool} {fk : FuncId} (hCT : CT p m fk) (hfk : fnOk Tryz.prog fk = true) {B : Heap} {Y : Pts} {g : Bool} {f pc : Nat} (hf : f < p.funcs.length) {X : Ins} (hI : InsOk p p.funcs[f] X) (hy : Shp p Y) (hB : BsM p 3 B) (q : X.op = 48) (h0 : 0 <= X.a) : FCr Tryz.prog Gl 141 [.ptr [81] 8 0 0, .agg [.int .i64 (f : Int), .int .i64 (pc : Int)], .agg X.row, .clo fk [] [.ptr [88] 1 0 0]] (HP [] B (MF p Y g)) (OutT p m B (a3h p f pc X) Y g) := by
 have hsv := a2t hp
 have fB : ∀ r, B (3 :: r) = none := fun r => (hB Y g Y g hy hy).fb 3 r (by decide)
 have y3 := hy.rn
 have y4 := hy.cn
 have hrr := hp.regs (gm_ hf)
 obtain ⟨y1, y2⟩ := hy.at hf
 obtain ⟨nr, hnr⟩ : ∃ nr : Nat, p.funcs[f].regs = (nr : Int) := ⟨p.funcs[f].regs.toNat, by have := hrr.p0; have := hrr.p1; omega⟩
 rw [hnr, tN_] at y2
 have hnr64 : nr <= 64 := by have := hrr.r64; omega
 have hIa := hI.a
 have hIb := hI.b
 have hIc := hI.c
 have hi1 : ∀ (L : List (FM.Loc × FO)) (Z : Pts) (h : Bool), inH (HP L B (MF p Z h)) [88] := fun L Z h => a6w
 have hi2 : ∀ (L : List (FM.Loc × FO)) (Z : Pts) (h : Bool), inH (HP L B (MF p Z h)) [81] := fun L Z h => a2n a2z
 have hi3 : ∀ (L : List (FM.Loc × FO)) (Z : Pts) (h : Bool), Shp p Z -> inH (HP L B (MF p Z h)) [83, f] := fun L Z h hZ => a2n (a3j (hZ.at hf).1)
 have had : -1 <= X.a /\ X.a < p.funcs[f].regs := by have := hI.a; rw [q] at this; exact b1m this (.inl rfl)
 have ha : isR p.funcs[f] X.a := show isR p.funcs[f] X.a from ⟨h0, had.2⟩
 obtain ⟨a0, a1⟩ := id ha
 have aN : (X.a).toNat < nr := by omega
 have a2 : X.a < (nr : Int) := by omega
 have haS := hy.rok hf ha
 have hb : isR p.funcs[f] X.b := a3o (r := (rR X.op).2.1) hIb (by rw [q]; decide)
 obtain ⟨b0, b1⟩ := id hb
 have bN : (X.b).toNat < nr := by omega
 have b2 : X.b < (nr : Int) := by omega
 have hbS := hy.rok hf hb
 refine a3d (res := []) 16 210 [27, 63, 62, 183, 192, 191, 190] (fun d ix => 3 :: d :: ix) (fn := Tryz.f141) (by kernel_rfl) (by rfl) (by rfl) (by rfl) (by simp) (by decide) ?_
 repeat' first
  | ((with_reducible refine a1f (id := 24) fun K hK => ?_); refine a0t 3 ?_)
  | ((with_reducible refine a1f (id := 27) fun K hK => ?_); refine a0t 5 ?_)
  | ((with_reducible refine a1f (id := 31) fun K hK => ?_); refine a0t 5 ?_)
  | ((with_reducible refine a1f (id := 33) fun K hK => ?_); refine a0t 6 ?_)
  | ((with_reducible refine a1f (id := 36) fun K hK => ?_); refine a0t 5 ?_)
  | ((with_reducible refine a1f (id := 39) fun K hK => ?_); refine a0t 5 ?_)
  | ((with_reducible refine a1f (id := 41) fun K hK => ?_); refine a0t 5 ?_)
  | ((with_reducible refine a1f (id := 45) fun K hK => ?_); refine a0t 4 ?_)
  | with_reducible first | refine a1h (id := 6) [] 7 a0y (by kernel_rfl) fun K hK => ?_ | refine a1h (id := 12) [] 8 a0y (by kernel_rfl) fun K hK => ?_ | refine a1h (id := 17) [] 16 a0y (by kernel_rfl) fun K hK => ?_ | refine a1h (id := 22) [] 11 a0y (by kernel_rfl) fun K hK => ?_ | refine a1h (id := 55) [] 12 a0y (by kernel_rfl) fun K hK => ?_ | refine a3r ?_
  | ((with_reducible refine mdH ?_); refine a2l (by kernel_rfl) (fun d hd => ?_) rfl (cl1M hCT hfk (a := X.b) (e := X.a) (hf := hf) hy hB ?_ ?_ hnr ⟨?_, ?_, ?_⟩ hb ha) ?_; (focus (cases hd; exact lbR rfl)); (focus rfl); (focus (first | rfl | (simp [ninL, ninO, a2u, nins, nin, a0e, a0m, a0c, a0v, a0a, a0b, a1j, mapO, a1o, a1m, a0p, a0k, hdN, *]; done))); (iterate 3 (focus (simp [a1p, a1v]; done))); (rintro r' H' ⟨rfl, Z2, h2, rfl, hZ2, hT2⟩))
  | ((with_reducible refine lfH ?_); refine a6j (j := 3) (hB _ _ _ _ hy hZ2) rfl ⟨rfl, Z2, h2, rfl, hZ2, hT2.congr (fun z => by simp [a3h, q, alO, gsr, rdC, wrC, h0])⟩ trivial)
  | with_reducible first | refine a4e ?_ | refine a6g ?_ | refine a2j (id := 1) 9 a0y (by kernel_rfl) fun K hK => ?_ | refine a2j (id := 11) 6 a0y (by kernel_rfl) fun K hK => ?_ | refine stp ?_ | refine stpK ?_; intro K hK | refine stpC ?_; intro T E hT hE | refine stp2 ?_ ?_ <;> intro h | refine a0g rfl ?_ | refine a0j rfl (lbR rfl) a0i ?_ | refine a0j rfl (lbR rfl) (a0h (by simp [HPXB, a1i, fB, ext, upd, *])) ?_ | refine a1g (by decide) (by kernel_rfl) ?_ | refine a0o (by decide) ?_ | refine Kont.go hK ?_; clear hK K | refine KT.go hT ?_; clear hT hE T E | refine KT.go hE ?_; clear hT hE T E
  | simp [*, -List.all_flatten, -List.all_eq_true, DEFM, fB, a1k, a1d, a1i, hdN, a0p, a0k, a1m, a0u, a0r, a0s, a1y, a1z, a2a, anR, a5y, a5x, a2z, a3j, a2p, MG_t, MG_f, rmvs, a1c, a2o, a0x, a2b, a0b, a0e, FnD.row, Ins.row, a8w, a2p, a9i, a9h]
theorem f9h {p : Pg} (hp : VOk p) {m : Bool} {fk : FuncId} (hCT : CT p m fk) (hfk : fnOk Tryz.prog fk = true) {B : Heap} {Y : Pts} {g : Bool} {f pc : Nat} (hf : f < p.funcs.length) {X : Ins} (hI : InsOk p p.funcs[f] X) (hy : Shp p Y) (hB : BsM p 3 B) (q : X.op = 48) (h0 : ¬ 0 <= X.a) : FCr Tryz.prog Gl 141 [.ptr [81] 8 0 0, .agg [.int .i64 (f : Int), .int .i64 (pc : Int)], .agg X.row, .clo fk [] [.ptr [88] 1 0 0]] (HP [] B (MF p Y g)) (OutT p m B (a3h p f pc X) Y g) := by
 have hsv := a2t hp
 have fB : ∀ r, B (3 :: r) = none := fun r => (hB Y g Y g hy hy).fb 3 r (by decide)
 have y3 := hy.rn
 have y4 := hy.cn
 have hrr := hp.regs (gm_ hf)
 obtain ⟨y1, y2⟩ := hy.at hf
 obtain ⟨nr, hnr⟩ : ∃ nr : Nat, p.funcs[f].regs = (nr : Int) := ⟨p.funcs[f].regs.toNat, by have := hrr.p0; have := hrr.p1; omega⟩
 rw [hnr, tN_] at y2
 have hnr64 : nr <= 64 := by have := hrr.r64; omega
 have hIa := hI.a
 have hIb := hI.b
 have hIc := hI.c
 have hi1 : ∀ (L : List (FM.Loc × FO)) (Z : Pts) (h : Bool), inH (HP L B (MF p Z h)) [88] := fun L Z h => a6w
 have hi2 : ∀ (L : List (FM.Loc × FO)) (Z : Pts) (h : Bool), inH (HP L B (MF p Z h)) [81] := fun L Z h => a2n a2z
 have hi3 : ∀ (L : List (FM.Loc × FO)) (Z : Pts) (h : Bool), Shp p Z -> inH (HP L B (MF p Z h)) [83, f] := fun L Z h hZ => a2n (a3j (hZ.at hf).1)
 have hZ2 := hy
 have h0' : ¬ X.a ≥ 0 := h0
 refine a3d (res := []) 16 210 [27, 63, 62, 183, 192, 191, 190] (fun d ix => 3 :: d :: ix) (fn := Tryz.f141) (by kernel_rfl) (by rfl) (by rfl) (by rfl) (by simp) (by decide) ?_
 repeat' first
  | ((with_reducible refine a1f (id := 24) fun K hK => ?_); refine a0t 3 ?_)
  | ((with_reducible refine a1f (id := 27) fun K hK => ?_); refine a0t 5 ?_)
  | ((with_reducible refine a1f (id := 31) fun K hK => ?_); refine a0t 5 ?_)
  | ((with_reducible refine a1f (id := 33) fun K hK => ?_); refine a0t 6 ?_)
  | ((with_reducible refine a1f (id := 36) fun K hK => ?_); refine a0t 5 ?_)
  | ((with_reducible refine a1f (id := 39) fun K hK => ?_); refine a0t 5 ?_)
  | ((with_reducible refine a1f (id := 41) fun K hK => ?_); refine a0t 5 ?_)
  | ((with_reducible refine a1f (id := 45) fun K hK => ?_); refine a0t 4 ?_)
  | with_reducible first | refine a1h (id := 6) [] 7 a0y (by kernel_rfl) fun K hK => ?_ | refine a1h (id := 12) [] 8 a0y (by kernel_rfl) fun K hK => ?_ | refine a1h (id := 17) [] 16 a0y (by kernel_rfl) fun K hK => ?_ | refine a1h (id := 22) [] 11 a0y (by kernel_rfl) fun K hK => ?_ | refine a1h (id := 55) [] 12 a0y (by kernel_rfl) fun K hK => ?_ | refine a3r ?_
  | ((with_reducible refine lfH ?_); refine a6j (j := 3) (hB _ _ _ _ hy hy) rfl ⟨rfl, Y, g, rfl, hy, TR.id (by simp [a3h, q, alO, h0])⟩ trivial)
  | with_reducible first | refine a4e ?_ | refine a6g ?_ | refine a2j (id := 1) 9 a0y (by kernel_rfl) fun K hK => ?_ | refine a2j (id := 11) 6 a0y (by kernel_rfl) fun K hK => ?_ | refine stp ?_ | refine stpK ?_; intro K hK | refine stpC ?_; intro T E hT hE | refine stp2 ?_ ?_ <;> intro h | refine a0g rfl ?_ | refine a0j rfl (lbR rfl) a0i ?_ | refine a0j rfl (lbR rfl) (a0h (by simp [HPXB, a1i, fB, ext, upd, *])) ?_ | refine a1g (by decide) (by kernel_rfl) ?_ | refine a0o (by decide) ?_ | refine Kont.go hK ?_; clear hK K | refine KT.go hT ?_; clear hT hE T E | refine KT.go hE ?_; clear hT hE T E
  | simp [*, -List.all_flatten, -List.all_eq_true, DEFM, fB, a1k, a1d, a1i, hdN, a0p, a0k, a1m, a0u, a0r, a0s, a1y, a1z, a2a, anR, a5y, a5x, a2z, a3j, a2p, MG_t, MG_f, rmvs, a1c, a2o, a0x, a2b, a0b, a0e, FnD.row, Ins.row, a8w, a2p, a9i, a9h]
theorem c_25 {p : Pg} (hp : VOk p) {m : Bool} {fk : FuncId} (hCT : CT p m fk) (hfk : fnOk Tryz.prog fk = true) {B : Heap} {Y : Pts} {g : Bool} {f pc : Nat} (hf : f < p.funcs.length) {X : Ins} (hI : InsOk p p.funcs[f] X) (hy : Shp p Y) (hB : BsM p 3 B) (q : X.op = 25) : FCr Tryz.prog Gl 141 [.ptr [81] 8 0 0, .agg [.int .i64 (f : Int), .int .i64 (pc : Int)], .agg X.row, .clo fk [] [.ptr [88] 1 0 0]] (HP [] B (MF p Y g)) (OutT p m B (a3h p f pc X) Y g) := by
 have hsv := a2t hp
 have fB : ∀ r, B (3 :: r) = none := fun r => (hB Y g Y g hy hy).fb 3 r (by decide)
 have y3 := hy.rn
 have y4 := hy.cn
 have hrr := hp.regs (gm_ hf)
 obtain ⟨y1, y2⟩ := hy.at hf
 obtain ⟨nr, hnr⟩ : ∃ nr : Nat, p.funcs[f].regs = (nr : Int) := ⟨p.funcs[f].regs.toNat, by have := hrr.p0; have := hrr.p1; omega⟩
 rw [hnr, tN_] at y2
 have hnr64 : nr <= 64 := by have := hrr.r64; omega
 have hIa := hI.a
 have hIb := hI.b
 have hIc := hI.c
 have hi1 : ∀ (L : List (FM.Loc × FO)) (Z : Pts) (h : Bool), inH (HP L B (MF p Z h)) [88] := fun L Z h => a6w
 have hi2 : ∀ (L : List (FM.Loc × FO)) (Z : Pts) (h : Bool), inH (HP L B (MF p Z h)) [81] := fun L Z h => a2n a2z
 have hi3 : ∀ (L : List (FM.Loc × FO)) (Z : Pts) (h : Bool), Shp p Z -> inH (HP L B (MF p Z h)) [83, f] := fun L Z h hZ => a2n (a3j (hZ.at hf).1)
 have ha : isR p.funcs[f] X.a := a3o (r := (rR X.op).1) hIa (by rw [q]; decide)
 obtain ⟨a0, a1⟩ := id ha
 have aN : (X.a).toNat < nr := by omega
 have a2 : X.a < (nr : Int) := by omega
 have haS := hy.rok hf ha
 have h0S : isR p.funcs[f] 0 := ⟨by omega, (hI.x25 q).2⟩
 refine a3d (res := []) 16 210 [27, 63, 62, 183, 192, 191, 190] (fun d ix => 3 :: d :: ix) (fn := Tryz.f141) (by kernel_rfl) (by rfl) (by rfl) (by rfl) (by simp) (by decide) ?_
 repeat' first
  | ((with_reducible refine a1f (id := 24) fun K hK => ?_); refine a0t 3 ?_)
  | ((with_reducible refine a1f (id := 27) fun K hK => ?_); refine a0t 5 ?_)
  | ((with_reducible refine a1f (id := 31) fun K hK => ?_); refine a0t 5 ?_)
  | ((with_reducible refine a1f (id := 33) fun K hK => ?_); refine a0t 6 ?_)
  | ((with_reducible refine a1f (id := 36) fun K hK => ?_); refine a0t 5 ?_)
  | ((with_reducible refine a1f (id := 39) fun K hK => ?_); refine a0t 5 ?_)
  | ((with_reducible refine a1f (id := 41) fun K hK => ?_); refine a0t 5 ?_)
  | ((with_reducible refine a1f (id := 45) fun K hK => ?_); refine a0t 4 ?_)
  | with_reducible first | refine a1h (id := 6) [] 7 a0y (by kernel_rfl) fun K hK => ?_ | refine a1h (id := 12) [] 8 a0y (by kernel_rfl) fun K hK => ?_ | refine a1h (id := 17) [] 16 a0y (by kernel_rfl) fun K hK => ?_ | refine a1h (id := 22) [] 11 a0y (by kernel_rfl) fun K hK => ?_ | refine a1h (id := 55) [] 12 a0y (by kernel_rfl) fun K hK => ?_ | refine a3r ?_
  | ((with_reducible refine mdH ?_); refine a2l (by kernel_rfl) (fun d hd => ?_) rfl (cl1M hCT hfk (a := 0) (e := X.a) (hf := hf) hy hB ?_ ?_ hnr ⟨?_, ?_, ?_⟩ h0S ha) ?_; (focus (cases hd; exact lbR rfl)); (focus rfl); (focus (first | rfl | (simp [ninL, ninO, a2u, nins, nin, a0e, a0m, a0c, a0v, a0a, a0b, a1j, mapO, a1o, a1m, a0p, a0k, hdN, *]; done))); (iterate 3 (focus (simp [a1p, a1v]; done))); (rintro r' H' ⟨rfl, Z2, h2, rfl, hZ2, hT2⟩))
  | ((with_reducible refine lfH ?_); refine a6j (j := 3) (hB _ _ _ _ hy hZ2) rfl ⟨rfl, Z2, h2, rfl, hZ2, hT2.congr (fun z => by simp [a3h, q, alO, gsr, rdC, wrC, gs0])⟩ trivial)
  | with_reducible first | refine a4e ?_ | refine a6g ?_ | refine a2j (id := 1) 9 a0y (by kernel_rfl) fun K hK => ?_ | refine a2j (id := 11) 6 a0y (by kernel_rfl) fun K hK => ?_ | refine stp ?_ | refine stpK ?_; intro K hK | refine stpC ?_; intro T E hT hE | refine stp2 ?_ ?_ <;> intro h | refine a0g rfl ?_ | refine a0j rfl (lbR rfl) a0i ?_ | refine a0j rfl (lbR rfl) (a0h (by simp [HPXB, a1i, fB, ext, upd, *])) ?_ | refine a1g (by decide) (by kernel_rfl) ?_ | refine a0o (by decide) ?_ | refine Kont.go hK ?_; clear hK K | refine KT.go hT ?_; clear hT hE T E | refine KT.go hE ?_; clear hT hE T E
  | simp [*, -List.all_flatten, -List.all_eq_true, DEFM, fB, a1k, a1d, a1i, hdN, a0p, a0k, a1m, a0u, a0r, a0s, a1y, a1z, a2a, anR, a5y, a5x, a2z, a3j, a2p, MG_t, MG_f, rmvs, a1c, a2o, a0x, a2b, a0b, a0e, FnD.row, Ins.row, a8w, a2p, a9i, a9h]
end Go.Je
