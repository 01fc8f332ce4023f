/- Parts of the proof. -/
import Derived.Test.YtfhhgjbcenhdeaaR22
set_option linter.unusedSimpArgs false
set_option linter.unusedVariables false
namespace Go.He
open Go Go.FM Go.Gv Go.Proofs
set_option maxRecDepth 100000
set_option maxHeartbeats 40000000
theorem d6h {p : Pg} {m : Bool} {fk : FuncId} (hCT : CT p m fk) (hfk : fnOk Try.prog fk = true) {B : Heap} {Y : Pts} {g : Bool} {f : Nat} (hf : f < p.funcs.length) (hy : Shp p Y) (hB : BsM p 2 B) {nr nb nr2 np : Nat} (hnr : p.funcs[f].regs = (nr : Int)) {X : Ins} (hxb : X.b = (nb : Int)) (hnb : nb < p.funcs.length) (hnr2 : p.funcs[nb].regs = (nr2 : Int)) (hnp : p.funcs[nb].params = (np : Int)) (h1 : np <= nr2) (h2 : nr2 <= 64) (h3 : nr <= 64) (hc0 : 0 <= X.c) (hc1 : X.c + np <= nr) (q1 : ¬ X.op = 26) : FCr Try.prog Gl 62 [.ptr [81] 8 0 0, .agg X.row, .sl [83, f] 1 0 nr, .clo fk [] [.ptr [88] 1 0 0]] (HP [] B (MF p Y g)) (OutT p m B (b8e f X nb np (p.funcs[nb]'hnb).code) Y g) := by
 have fB : ∀ r, B (2 :: r) = none := fun r => (hB Y g Y g hy hy).fb 2 r (by decide)
 have y3 := hy.rn
 have hi1 : ∀ (L : List (FM.Loc × FO)) (Z : Pts) (h : Bool), inH (HP L B (MF p Z h)) [88] := fun L Z h => a8n
 have hi2 : ∀ (L : List (FM.Loc × FO)) (Z : Pts) (h : Bool), inH (HP L B (MF p Z h)) [81] := fun L Z h => a3p a3r
 have hi3 : ∀ (L : List (FM.Loc × FO)) (Z : Pts) (h : Bool), Shp p Z -> inH (HP L B (MF p Z h)) [83, f] := fun L Z h hZ => a3p (a4g (hZ.at hf).1)
 refine a4f (res := []) 12 90 [23, 22, 58, 57, 56] (fun d ix => 2 :: d :: ix) (fn := Try.f62) (by kernel_rfl) (by rfl) (by rfl) (by rfl) (by simp) (by decide) ?_
 repeat' first
  | (with_reducible refine a1z (id := 5) [] 19 a0k (by kernel_rfl) fun K hK => ?_)
  | (with_reducible refine a1z (id := 12) [] 18 a0k (by kernel_rfl) fun K hK => ?_)
  | (with_reducible refine a4v ?_)
  | ((with_reducible refine a1o ?_); refine a2h (σ := {x : Nat × (Pts × Bool) // x.1 <= np /\ Shp p x.2.1 /\ TR m (prC f X nb x.1) (prC f X nb x.1) Y g x.2.1 x.2.2}) (fun y => [(9, .undef)]) [22] (fun y => [(23, .int .i64 (y.1.1 : Int))]) [] (fun y => []) (fun y => MF p y.1.2.1 y.1.2.2) (fun y => np - y.1.1) ⟨(0, (Y, g)), Nat.zero_le _, hy, TR.id (e4j _ _ _ _)⟩ (gk3i (j := 2) [] (hB _ _ _ _ hy hy) ?_ ?_ ?_ ?_ ?_ ?_ ?_) ?_; (iterate 7 (focus (first | rfl | (simp [LPXB, *, SIMB, hdN, injB, fB, a2e, a1u, a2d, hdN, a1i, a0w]; done)))); rintro ⟨⟨k, ⟨Z, u⟩⟩, hk, hZ, hT1⟩; simp only [lpS, LPXB]; (try dsimp only at hk hZ hT1); obtain ⟨z1, z2⟩ := hZ.at hf; rw [hnr, Int.toNat_natCast] at z2; obtain ⟨z5, z6⟩ := hZ.at hnb; rw [hnr2, Int.toNat_natCast] at z6; have z3 := hZ.rn; rcases a1l hk with hlt | ⟨hlt, he⟩; rotate_left; subst k; rotate_left; have wk := wli hlt (by omega); have wc : IntKind.wrap .i64 (X.c + (k : Int)) = X.c + (k : Int) := (by rw [IntKind.wrap_i64]; omega); have c2 : X.c + (k : Int) < (nr : Int) := (by omega); have c3 : (0 : Int) <= X.c + (k : Int) := (by omega); have c4 : (X.c + (k : Int)).toNat < nr := (by omega); have k2 : k < nr2 := (by omega); have hto := hZ.rok hnb (a := (k : Int)) ⟨by omega, by omega⟩; have hfr := hZ.rok hf (a := X.c + (k : Int)) ⟨c3, by omega⟩)
  | ((with_reducible refine mdH ?_); refine a3g hfk (fun d hd => ?_) rfl (b5p (.r nb k) (SL.r f (X.c + (k : Int)).toNat).loc hCT hB (by decide) hZ (by simpa using hto) (hZ.gets (.r f (X.c + (k : Int)).toNat)) (a7c hfr) rfl ?_) ?_; (focus (cases hd; exact Nat.le_of_ble_eq_true rfl)); (focus (first | rfl | (simp [ninL, ninO, a3m, nins, nin, a0e, a0i, a0a, a1d, a0c, a0b, a2c, mapO, a2f, a1i, a0w, hdN, *]; done))); (rintro r' H' ⟨rfl, Z2, h2, rfl, hZ2, hT2⟩))
  | ((with_reducible refine a1j ?_); refine a1w (⟨(k + 1, (Z2, h2)), by omega, hZ2, hT1.stepk hT2 e4i⟩) (gk3i (j := 2) [] (hB _ _ _ _ hy hZ2) ?_ ?_ ?_ ?_ ?_ ?_ ?_) ?_; (iterate 7 (focus (first | rfl | (simp [LPXB, *, SIMB, hdN, injB, fB, a2e, a1u, a2d, hdN, a1i, a0w]; done)))); (focus (dsimp only; omega)))
  | ((with_reducible refine lfH ?_); refine a7d (j := 2) (hB _ _ _ _ hy hZ) rfl ⟨rfl, Z, u, rfl, hZ, hT1.callN (fun h => q1 h.1)⟩ trivial)
  | (with_reducible refine a5n ?_)
  | (with_reducible refine a7z ?_)
  | with_reducible first | refine a0p (id := 1) 10 a0k (by kernel_rfl) fun K hK => ?_ | refine stp ?_
  | (with_reducible refine stpK ?_; intro K hK)
  | (with_reducible refine stpC ?_; intro T E hT hE)
  | (with_reducible refine stp2 ?_ ?_ <;> intro h)
  | with_reducible first | refine a0q rfl ?_ | refine a0t rfl (Nat.le_of_ble_eq_true rfl) a0s ?_ | refine a0t rfl (Nat.le_of_ble_eq_true rfl) (a0r (by simp [HPXB, a2d, fB, ext, upd, *])) ?_ | refine a1v (by decide) (by kernel_rfl) ?_ | refine a0x (by decide) ?_
  | (with_reducible refine Kont.go hK ?_; clear hK K)
  | ((with_reducible first | refine KT.go hT ?_ | refine KT.go hE ?_); clear hT hE T E)
  | simp [*, -List.all_flatten, -List.all_eq_true, DEFM, fB, a2e, a1u, a2d, hdN, a1i, a0w, a1m, a0y, a0z, a2n, a2o, a2p, anR, a6m, a6l, a3r, a4g, a3k, MG_t, MG_f, rmvs, a0j, a3c, a0h, a2r, a0b, a0e, FnD.row, Ins.row]
theorem d6g {p : Pg} {m : Bool} {fk : FuncId} (hCT : CT p m fk) (hfk : fnOk Try.prog fk = true) {B : Heap} {Y : Pts} {g : Bool} {f : Nat} (hf : f < p.funcs.length) (hy : Shp p Y) (hB : BsM p 2 B) {nr nb nr2 np : Nat} (hnr : p.funcs[f].regs = (nr : Int)) {X : Ins} (hxb : X.b = (nb : Int)) (hnb : nb < p.funcs.length) (hnr2 : p.funcs[nb].regs = (nr2 : Int)) (hnp : p.funcs[nb].params = (np : Int)) (h1 : np <= nr2) (h2 : nr2 <= 64) (h3 : nr <= 64) (hc0 : 0 <= X.c) (hc1 : X.c + np <= nr) (q1 : X.op = 26) (q2 : X.a < 0) : FCr Try.prog Gl 62 [.ptr [81] 8 0 0, .agg X.row, .sl [83, f] 1 0 nr, .clo fk [] [.ptr [88] 1 0 0]] (HP [] B (MF p Y g)) (OutT p m B (b8e f X nb np (p.funcs[nb]'hnb).code) Y g) := by
 have fB : ∀ r, B (2 :: r) = none := fun r => (hB Y g Y g hy hy).fb 2 r (by decide)
 have y3 := hy.rn
 have hi1 : ∀ (L : List (FM.Loc × FO)) (Z : Pts) (h : Bool), inH (HP L B (MF p Z h)) [88] := fun L Z h => a8n
 have hi2 : ∀ (L : List (FM.Loc × FO)) (Z : Pts) (h : Bool), inH (HP L B (MF p Z h)) [81] := fun L Z h => a3p a3r
 have hi3 : ∀ (L : List (FM.Loc × FO)) (Z : Pts) (h : Bool), Shp p Z -> inH (HP L B (MF p Z h)) [83, f] := fun L Z h hZ => a3p (a4g (hZ.at hf).1)
 refine a4f (res := []) 12 90 [23, 22, 58, 57, 56] (fun d ix => 2 :: d :: ix) (fn := Try.f62) (by kernel_rfl) (by rfl) (by rfl) (by rfl) (by simp) (by decide) ?_
 repeat' first
  | (with_reducible refine a1z (id := 5) [] 19 a0k (by kernel_rfl) fun K hK => ?_)
  | (with_reducible refine a1z (id := 12) [] 18 a0k (by kernel_rfl) fun K hK => ?_)
  | (with_reducible refine a4v ?_)
  | ((with_reducible refine a1o ?_); refine a2h (σ := {x : Nat × (Pts × Bool) // x.1 <= np /\ Shp p x.2.1 /\ TR m (prC f X nb x.1) (prC f X nb x.1) Y g x.2.1 x.2.2}) (fun y => [(9, .undef)]) [22] (fun y => [(23, .int .i64 (y.1.1 : Int))]) [] (fun y => []) (fun y => MF p y.1.2.1 y.1.2.2) (fun y => np - y.1.1) ⟨(0, (Y, g)), Nat.zero_le _, hy, TR.id (e4j _ _ _ _)⟩ (gk3i (j := 2) [] (hB _ _ _ _ hy hy) ?_ ?_ ?_ ?_ ?_ ?_ ?_) ?_; (iterate 7 (focus (first | rfl | (simp [LPXB, *, SIMB, hdN, injB, fB, a2e, a1u, a2d, hdN, a1i, a0w]; done)))); rintro ⟨⟨k, ⟨Z, u⟩⟩, hk, hZ, hT1⟩; simp only [lpS, LPXB]; (try dsimp only at hk hZ hT1); obtain ⟨z1, z2⟩ := hZ.at hf; rw [hnr, Int.toNat_natCast] at z2; obtain ⟨z5, z6⟩ := hZ.at hnb; rw [hnr2, Int.toNat_natCast] at z6; have z3 := hZ.rn; rcases a1l hk with hlt | ⟨hlt, he⟩; rotate_left; subst k; rotate_left; have wk := wli hlt (by omega); have wc : IntKind.wrap .i64 (X.c + (k : Int)) = X.c + (k : Int) := (by rw [IntKind.wrap_i64]; omega); have c2 : X.c + (k : Int) < (nr : Int) := (by omega); have c3 : (0 : Int) <= X.c + (k : Int) := (by omega); have c4 : (X.c + (k : Int)).toNat < nr := (by omega); have k2 : k < nr2 := (by omega); have hto := hZ.rok hnb (a := (k : Int)) ⟨by omega, by omega⟩; have hfr := hZ.rok hf (a := X.c + (k : Int)) ⟨c3, by omega⟩)
  | ((with_reducible refine mdH ?_); refine a3g hfk (fun d hd => ?_) rfl (b5p (.r nb k) (SL.r f (X.c + (k : Int)).toNat).loc hCT hB (by decide) hZ (by simpa using hto) (hZ.gets (.r f (X.c + (k : Int)).toNat)) (a7c hfr) rfl ?_) ?_; (focus (cases hd; exact Nat.le_of_ble_eq_true rfl)); (focus (first | rfl | (simp [ninL, ninO, a3m, nins, nin, a0e, a0i, a0a, a1d, a0c, a0b, a2c, mapO, a2f, a1i, a0w, hdN, *]; done))); (rintro r' H' ⟨rfl, Z2, h2, rfl, hZ2, hT2⟩))
  | ((with_reducible refine a1j ?_); refine a1w (⟨(k + 1, (Z2, h2)), by omega, hZ2, hT1.stepk hT2 e4i⟩) (gk3i (j := 2) [] (hB _ _ _ _ hy hZ2) ?_ ?_ ?_ ?_ ?_ ?_ ?_) ?_; (iterate 7 (focus (first | rfl | (simp [LPXB, *, SIMB, hdN, injB, fB, a2e, a1u, a2d, hdN, a1i, a0w]; done)))); (focus (dsimp only; omega)))
  | ((with_reducible refine lfH ?_); refine a7d (j := 2) (hB _ _ _ _ hy hZ) rfl ⟨rfl, Z, u, rfl, hZ, hT1.callN (fun h => by omega)⟩ trivial)
  | (with_reducible refine a5n ?_)
  | (with_reducible refine a7z ?_)
  | with_reducible first | refine a0p (id := 1) 10 a0k (by kernel_rfl) fun K hK => ?_ | refine stp ?_
  | (with_reducible refine stpK ?_; intro K hK)
  | (with_reducible refine stpC ?_; intro T E hT hE)
  | (with_reducible refine stp2 ?_ ?_ <;> intro h)
  | with_reducible first | refine a0q rfl ?_ | refine a0t rfl (Nat.le_of_ble_eq_true rfl) a0s ?_ | refine a0t rfl (Nat.le_of_ble_eq_true rfl) (a0r (by simp [HPXB, a2d, fB, ext, upd, *])) ?_ | refine a1v (by decide) (by kernel_rfl) ?_ | refine a0x (by decide) ?_
  | (with_reducible refine Kont.go hK ?_; clear hK K)
  | ((with_reducible first | refine KT.go hT ?_ | refine KT.go hE ?_); clear hT hE T E)
  | simp [*, -List.all_flatten, -List.all_eq_true, DEFM, fB, a2e, a1u, a2d, hdN, a1i, a0w, a1m, a0y, a0z, a2n, a2o, a2p, anR, a6m, a6l, a3r, a4g, a3k, MG_t, MG_f, rmvs, a0j, a3c, a0h, a2r, a0b, a0e, FnD.row, Ins.row]
theorem e3h {p : Pg} {m : Bool} {fk : FuncId} (hCT : CT p m fk) (hfk : fnOk Try.prog fk = true) {B : Heap} {Y : Pts} {g : Bool} {f : Nat} (hf : f < p.funcs.length) (hy : Shp p Y) (hB : BsM p 2 B) {nr nb nr2 np : Nat} (hnr : p.funcs[f].regs = (nr : Int)) {X : Ins} (hxb : X.b = (nb : Int)) (hnb : nb < p.funcs.length) (hnr2 : p.funcs[nb].regs = (nr2 : Int)) (hnp : p.funcs[nb].params = (np : Int)) (h1 : np <= nr2) (h2 : nr2 <= 64) (h3 : nr <= 64) (hc0 : 0 <= X.c) (hc1 : X.c + np <= nr) (q1 : X.op = 26) (q2 : ¬ X.a < 0) (q3 : X.a < (nr : Int)) (hcl : (p.funcs[nb]'hnb).code.length <= 1000) (hg : ∀ n ∈ (p.funcs[nb]'hnb).code, n.op = 30 -> n.a < (nr2 : Int)) : FCr Try.prog Gl 62 [.ptr [81] 8 0 0, .agg X.row, .sl [83, f] 1 0 nr, .clo fk [] [.ptr [88] 1 0 0]] (HP [] B (MF p Y g)) (OutT p m B (b8e f X nb np (p.funcs[nb]'hnb).code) Y g) := by
 have fB : ∀ r, B (2 :: r) = none := fun r => (hB Y g Y g hy hy).fb 2 r (by decide)
 have y3 := hy.rn
 have hi1 : ∀ (L : List (FM.Loc × FO)) (Z : Pts) (h : Bool), inH (HP L B (MF p Z h)) [88] := fun L Z h => a8n
 have hi2 : ∀ (L : List (FM.Loc × FO)) (Z : Pts) (h : Bool), inH (HP L B (MF p Z h)) [81] := fun L Z h => a3p a3r
 have hi3 : ∀ (L : List (FM.Loc × FO)) (Z : Pts) (h : Bool), Shp p Z -> inH (HP L B (MF p Z h)) [83, f] := fun L Z h hZ => a3p (a4g (hZ.at hf).1)
 have q4 : 0 <= X.a := by omega
 have q5 : X.a.toNat < nr := by omega
 refine a4f (res := []) 12 90 [23, 22, 58, 57, 56] (fun d ix => 2 :: d :: ix) (fn := Try.f62) (by kernel_rfl) (by rfl) (by rfl) (by rfl) (by simp) (by decide) ?_
 repeat' first
  | (with_reducible refine a1z (id := 5) [] 19 a0k (by kernel_rfl) fun K hK => ?_)
  | (with_reducible refine a1z (id := 12) [] 18 a0k (by kernel_rfl) fun K hK => ?_)
  | (with_reducible refine a4v ?_)
  | ((with_reducible refine a1o ?_); refine a2h (σ := {x : Nat × (Pts × Bool) // x.1 <= np /\ Shp p x.2.1 /\ TR m (prC f X nb x.1) (prC f X nb x.1) Y g x.2.1 x.2.2}) (fun y => [(9, .undef)]) [22] (fun y => [(23, .int .i64 (y.1.1 : Int))]) [] (fun y => []) (fun y => MF p y.1.2.1 y.1.2.2) (fun y => np - y.1.1) ⟨(0, (Y, g)), Nat.zero_le _, hy, TR.id (e4j _ _ _ _)⟩ (gk3i (j := 2) [] (hB _ _ _ _ hy hy) ?_ ?_ ?_ ?_ ?_ ?_ ?_) ?_; (iterate 7 (focus (first | rfl | (simp [LPXB, *, SIMB, hdN, injB, fB, a2e, a1u, a2d, hdN, a1i, a0w]; done)))); rintro ⟨⟨k, ⟨Z, u⟩⟩, hk, hZ, hT1⟩; simp only [lpS, LPXB]; (try dsimp only at hk hZ hT1); obtain ⟨z1, z2⟩ := hZ.at hf; rw [hnr, Int.toNat_natCast] at z2; obtain ⟨z5, z6⟩ := hZ.at hnb; rw [hnr2, Int.toNat_natCast] at z6; have z3 := hZ.rn; rcases a1l hk with hlt | ⟨hlt, he⟩; rotate_left; subst k; rotate_left; have wk := wli hlt (by omega); have wc : IntKind.wrap .i64 (X.c + (k : Int)) = X.c + (k : Int) := (by rw [IntKind.wrap_i64]; omega); have c2 : X.c + (k : Int) < (nr : Int) := (by omega); have c3 : (0 : Int) <= X.c + (k : Int) := (by omega); have c4 : (X.c + (k : Int)).toNat < nr := (by omega); have k2 : k < nr2 := (by omega); have hto := hZ.rok hnb (a := (k : Int)) ⟨by omega, by omega⟩; have hfr := hZ.rok hf (a := X.c + (k : Int)) ⟨c3, by omega⟩)
  | ((with_reducible refine mdH ?_); refine a3g hfk (fun d hd => ?_) rfl (b5p (.r nb k) (SL.r f (X.c + (k : Int)).toNat).loc hCT hB (by decide) hZ (by simpa using hto) (hZ.gets (.r f (X.c + (k : Int)).toNat)) (a7c hfr) rfl ?_) ?_; (focus (cases hd; exact Nat.le_of_ble_eq_true rfl)); (focus (first | rfl | (simp [ninL, ninO, a3m, nins, nin, a0e, a0i, a0a, a1d, a0c, a0b, a2c, mapO, a2f, a1i, a0w, hdN, *]; done))); (rintro r' H' ⟨rfl, Z2, h2, rfl, hZ2, hT2⟩))
  | ((with_reducible refine a1j ?_); refine a1w (⟨(k + 1, (Z2, h2)), by omega, hZ2, hT1.stepk hT2 e4i⟩) (gk3i (j := 2) [] (hB _ _ _ _ hy hZ2) ?_ ?_ ?_ ?_ ?_ ?_ ?_) ?_; (iterate 7 (focus (first | rfl | (simp [LPXB, *, SIMB, hdN, injB, fB, a2e, a1u, a2d, hdN, a1i, a0w]; done)))); (focus (dsimp only; omega)))
  | ((with_reducible refine a1o ?_); refine a2h (σ := {x : Nat × (Pts × Bool) // x.1 <= (p.funcs[nb]'hnb).code.length /\ Shp p x.2.1 /\ TR m (rtC f X nb (p.funcs[nb]'hnb).code x.1) (rtC f X nb (p.funcs[nb]'hnb).code x.1) Z u x.2.1 x.2.2}) (fun y => [(11, .undef)]) [57, 56] (fun y => [(58, .int .i64 (y.1.1 : Int))]) [[2, 11]] (fun y => []) (fun y => MF p y.1.2.1 y.1.2.2) (fun y => (p.funcs[nb]'hnb).code.length - y.1.1) ⟨(0, (Z, u)), Nat.zero_le _, hZ, TR.id (g0p _ _ _ _ _)⟩ (gk3i (j := 2) [] (hB _ _ _ _ hy hZ) ?_ ?_ ?_ ?_ ?_ ?_ ?_) ?_; (iterate 7 (focus (first | rfl | (simp [LPXB, *, SIMB, hdN, injB, fB, a2e, a1u, a2d, hdN, a1i, a0w, a0b]; done)))); rintro ⟨⟨k, ⟨V, v⟩⟩, hk2, hV, hT3⟩; simp only [lpS, LPXB]; (try dsimp only at hk2 hV hT3); obtain ⟨v1, v2⟩ := hV.at hf; rw [hnr, Int.toNat_natCast] at v2; obtain ⟨v5, v6⟩ := hV.at hnb; rw [hnr2, Int.toNat_natCast] at v6; have v3 := hV.rn; rcases a1l hk2 with hlk | ⟨hlk, he⟩; rotate_left; subst k; rotate_left; have wk := wli hlk (by omega); have hgl := hg (p.funcs[nb]'hnb).code[k] (List.getElem_mem hlk); have hga := hV.rok hf (a := X.a) ⟨by omega, by omega⟩; by_cases r1 : (p.funcs[nb]'hnb).code[k].op = 30; rotate_left; have hno : ¬ ((p.funcs[nb]'hnb).code[k].op = 30 /\ 0 <= (p.funcs[nb]'hnb).code[k].a) := (fun h => r1 h.1); rotate_right; by_cases r2 : 0 <= (p.funcs[nb]'hnb).code[k].a; rotate_left; have hno : ¬ ((p.funcs[nb]'hnb).code[k].op = 30 /\ 0 <= (p.funcs[nb]'hnb).code[k].a) := (fun h => r2 h.2); rotate_right; have hgl2 := hgl r1; have hgm := hV.rok hnb (a := (p.funcs[nb]'hnb).code[k].a) ⟨r2, by omega⟩; have g4 : ((p.funcs[nb]'hnb).code[k].a).toNat < nr2 := (by omega); have g5 : (p.funcs[nb]'hnb).code[k].a < (nr2 : Int) := (by omega))
  | ((with_reducible refine mdH ?_); refine a3g hfk (fun d hd => ?_) rfl (b5p (.r f X.a.toNat) (SL.r nb ((p.funcs[nb]'hnb).code[k].a).toNat).loc hCT hB (by decide) hV hga (hV.gets (.r nb ((p.funcs[nb]'hnb).code[k].a).toNat)) (a7c hgm) rfl ?_) ?_; (focus (cases hd; exact Nat.le_of_ble_eq_true rfl)); (focus (first | rfl | (simp [ninL, ninO, a3m, nins, nin, a0e, a0i, a0a, a1d, a0c, a0b, a2c, mapO, a2f, a1i, a0w, hdN, *]; done))); (rintro r' H' ⟨rfl, V2, v2_, rfl, hV2, hT4⟩))
  | ((with_reducible refine a1j ?_); refine a1w (⟨(k + 1, (V2, v2_)), by omega, hV2, hT3.stepk hT4 (g0n hlk r1 r2)⟩) (gk3i (j := 2) [] (hB _ _ _ _ hy hV2) ?_ ?_ ?_ ?_ ?_ ?_ ?_) ?_; (iterate 7 (focus (first | rfl | (simp [LPXB, *, SIMB, hdN, injB, fB, a2e, a1u, a2d, hdN, a1i, a0w, a0b]; done)))); (focus (dsimp only; omega)))
  | ((with_reducible refine a1j ?_); refine a1w (⟨(k + 1, (V, v)), by omega, hV, hT3.congr (g0o hlk hno)⟩) (gk3i (j := 2) [] (hB _ _ _ _ hy hV) ?_ ?_ ?_ ?_ ?_ ?_ ?_) ?_; (iterate 7 (focus (first | rfl | (simp [LPXB, *, SIMB, hdN, injB, fB, a2e, a1u, a2d, hdN, a1i, a0w, a0b]; done)))); (focus (dsimp only; omega)))
  | ((with_reducible refine lfH ?_); refine a7d (j := 2) (hB _ _ _ _ hy hV) rfl ⟨rfl, V, v, rfl, hV, hT1.callY hT3 ⟨q1, by omega⟩⟩ trivial)
  | (with_reducible refine a5n ?_)
  | (with_reducible refine a7z ?_)
  | with_reducible first | refine a0p (id := 1) 10 a0k (by kernel_rfl) fun K hK => ?_ | refine stp ?_
  | (with_reducible refine stpK ?_; intro K hK)
  | (with_reducible refine stpC ?_; intro T E hT hE)
  | (with_reducible refine stp2 ?_ ?_ <;> intro h)
  | with_reducible first | refine a0q rfl ?_ | refine a0t rfl (Nat.le_of_ble_eq_true rfl) a0s ?_ | refine a0t rfl (Nat.le_of_ble_eq_true rfl) (a0r (by simp [HPXB, a2d, fB, ext, upd, *])) ?_ | refine a1v (by decide) (by kernel_rfl) ?_ | refine a0x (by decide) ?_
  | (with_reducible refine Kont.go hK ?_; clear hK K)
  | ((with_reducible first | refine KT.go hT ?_ | refine KT.go hE ?_); clear hT hE T E)
  | simp [*, -List.all_flatten, -List.all_eq_true, DEFM, fB, a2e, a1u, a2d, hdN, a1i, a0w, a1m, a0y, a0z, a2n, a2o, a2p, anR, a6m, a6l, a3r, a4g, a3k, MG_t, MG_f, rmvs, a0j, a3c, a0h, a2r, a0b, a0e, FnD.row, Ins.row]
theorem g3s {p : Pg} (hp : VOk p) {Y : Pts} (hy : Gv.Form p Y) {B : Heap} (hB : BsP p 2 B) {i j : Nat} (hi : i < p.funcs.length) (hj : j < (p.funcs[i]).code.length) (q : p.funcs[i].code[j].op = 48) (h0 : 0 <= p.funcs[i].code[j].a) : FC Try.prog Gl 34 [.agg [.list 4 (fns p.funcs), .list 2 (gbs p.globals), .list 1 (lays p.layouts), .int .i64 p.main], .agg [.list 2 (sits (a0d p)), .sl [91] 1 0 p.funcs.length, .sl [93] 1 0 (a0d p).length], .int .i64 (i : Int), .int .i64 (j : Int)] (HP [] B (PF Y)) (.tup []) (HP [] B (PF (a3l p i j p.funcs[i].code[j] Y))) := by
 have hsv := a2b hp
 have nB : ∀ r, B (2 :: r) = none := fun r => (hB _ _ hy hy).fb 2 r (by decide)
 have nB1 : ∀ r, B (1 :: r) = none := fun r => (hB _ _ hy hy).fb 1 r (by decide)
 have hyn := hy.rn
 have hyc := hy.cn
 have hir : i < Y.regs.length := by omega
 have hI := hp.ins _ (List.getElem_mem hi) _ (List.getElem_mem hj)
 have had : -1 <= p.funcs[i].code[j].a /\ p.funcs[i].code[j].a < p.funcs[i].regs := by have := hI.a; rw [q] at this; exact a9k this (.inl rfl)
 obtain ⟨a1, a2, a3, a4, a5, a6⟩ := a4i hy hi (show isR p.funcs[i] p.funcs[i].code[j].a from ⟨h0, had.2⟩)
 obtain ⟨b1, b2, b3, b4, b5, b6⟩ := a4i hy hi (a8c hp hi hj (by rw [q]; decide))
 have hst : a3l p i j p.funcs[i].code[j] Y = addR Y i p.funcs[i].code[j].a (a8j Y (rg Y i p.funcs[i].code[j].b)) := by simp [a3l, q, alO, h0]
 rw [b5] at hst
 rw [a6c hir a2] at hst
 have hF := a4a hp hy hi hj
 rw [hst] at hF
 refine a3s (res := []) 19 389 [34] (fun d ix => 2 :: d :: ix) (fn := Try.f34) (by kernel_rfl) (by rfl) (by rfl) (by rfl) (by simp) (by decide) ?_
 repeat' first
  | (with_reducible refine hfc1 [1, 2] (.cells 30 3 [[.list 2 (sits (a0d p)), .sl [91] 1 0 p.funcs.length, .sl [93] 1 0 (a0d p).length]]) (b9i hp hy b6 a3o) ?_)
  | ((with_reducible refine b0u (j := 2) (hB _ _ hy hF) ?_ ?_ ?_ ?_); (focus rfl); (focus rfl); (focus rfl); focus trivial)
  | with_reducible first | refine a0p (id := 63) 25 a0k (by kernel_rfl) fun K hK => ?_ | refine a0p (id := 59) 7 a0k (by kernel_rfl) fun K hK => ?_ | refine a0p (id := 51) 24 a0k (by kernel_rfl) fun K hK => ?_ | refine a0p (id := 46) 25 a0k (by kernel_rfl) fun K hK => ?_ | refine a0p (id := 38) 17 a0k (by kernel_rfl) fun K hK => ?_ | refine a0p (id := 36) 12 a0k (by kernel_rfl) fun K hK => ?_ | refine a0p (id := 33) 17 a0k (by kernel_rfl) fun K hK => ?_ | refine a0p (id := 30) 13 a0k (by kernel_rfl) fun K hK => ?_ | refine a0p (id := 28) 12 a0k (by kernel_rfl) fun K hK => ?_ | refine a0p (id := 24) 17 a0k (by kernel_rfl) fun K hK => ?_ | refine a0p (id := 21) 15 a0k (by kernel_rfl) fun K hK => ?_ | refine a0p (id := 19) 15 a0k (by kernel_rfl) fun K hK => ?_ | refine a0p (id := 15) 12 a0k (by kernel_rfl) fun K hK => ?_ | refine a0p (id := 14) 11 a0k (by kernel_rfl) fun K hK => ?_ | refine a0p (id := 5) 11 a0k (by kernel_rfl) fun K hK => ?_ | refine stp ?_
  | (with_reducible refine stpK ?_; intro K hK)
  | (with_reducible refine stpC ?_; intro T E hT hE)
  | (with_reducible refine stp2 ?_ ?_ <;> intro h)
  | with_reducible first | refine a0q rfl ?_ | refine a1n (a9z hp a6 (b0f hy _)) (by simp [nls, nl, *, NLXB]) ?_ | refine hpc (a9z hp a6 (b0f hy _)) (by simp [nls, nl, *, NLXB]) ?_ | refine a0t rfl (Nat.le_of_ble_eq_true rfl) a0s ?_ | refine a0t rfl (Nat.le_of_ble_eq_true rfl) (a0r (by simp [HPXB, a3a, nB, nB1, ext, upd, *])) ?_ | refine a1v (by decide) (by kernel_rfl) ?_ | refine a0x (by decide) ?_
  | (with_reducible refine Kont.go hK ?_; clear hK K)
  | ((with_reducible first | refine KT.go hT ?_ | refine KT.go hE ?_); clear hT hE T E)
  | simp [*, -List.all_flatten, -List.all_eq_true, DEFB, LENB, a3a, a4b, a3o, a1a, a3y, a3z, a3f, a2u, a7f, a7g, a6p, List.length_set, a2u, a2j, a0g, a2x, a2i]
theorem g3t {p : Pg} (hp : VOk p) {Y : Pts} (hy : Gv.Form p Y) {B : Heap} (hB : BsP p 2 B) {i j : Nat} (hi : i < p.funcs.length) (hj : j < (p.funcs[i]).code.length) (q : p.funcs[i].code[j].op = 48) (h0 : ¬ 0 <= p.funcs[i].code[j].a) : FC Try.prog Gl 34 [.agg [.list 4 (fns p.funcs), .list 2 (gbs p.globals), .list 1 (lays p.layouts), .int .i64 p.main], .agg [.list 2 (sits (a0d p)), .sl [91] 1 0 p.funcs.length, .sl [93] 1 0 (a0d p).length], .int .i64 (i : Int), .int .i64 (j : Int)] (HP [] B (PF Y)) (.tup []) (HP [] B (PF (a3l p i j p.funcs[i].code[j] Y))) := by
 have hsv := a2b hp
 have nB : ∀ r, B (2 :: r) = none := fun r => (hB _ _ hy hy).fb 2 r (by decide)
 have nB1 : ∀ r, B (1 :: r) = none := fun r => (hB _ _ hy hy).fb 1 r (by decide)
 have hyn := hy.rn
 have hyc := hy.cn
 have hir : i < Y.regs.length := by omega
 have h0' : ¬ p.funcs[i].code[j].a ≥ 0 := h0
 have hst : a3l p i j p.funcs[i].code[j] Y = Y := by simp [a3l, q, alO, h0]
 have hF := a4a hp hy hi hj
 rw [hst] at hF
 refine a3s (res := []) 19 389 [34] (fun d ix => 2 :: d :: ix) (fn := Try.f34) (by kernel_rfl) (by rfl) (by rfl) (by rfl) (by simp) (by decide) ?_
 repeat' first
  | ((with_reducible refine b0u (j := 2) (hB _ _ hy hF) ?_ ?_ ?_ ?_); (focus rfl); (focus rfl); (focus rfl); focus trivial)
  | with_reducible first | refine a0p (id := 63) 25 a0k (by kernel_rfl) fun K hK => ?_ | refine a0p (id := 59) 7 a0k (by kernel_rfl) fun K hK => ?_ | refine a0p (id := 51) 24 a0k (by kernel_rfl) fun K hK => ?_ | refine a0p (id := 46) 25 a0k (by kernel_rfl) fun K hK => ?_ | refine a0p (id := 38) 17 a0k (by kernel_rfl) fun K hK => ?_ | refine a0p (id := 36) 12 a0k (by kernel_rfl) fun K hK => ?_ | refine a0p (id := 33) 17 a0k (by kernel_rfl) fun K hK => ?_ | refine a0p (id := 30) 13 a0k (by kernel_rfl) fun K hK => ?_ | refine a0p (id := 28) 12 a0k (by kernel_rfl) fun K hK => ?_ | refine a0p (id := 24) 17 a0k (by kernel_rfl) fun K hK => ?_ | refine a0p (id := 21) 15 a0k (by kernel_rfl) fun K hK => ?_ | refine a0p (id := 19) 15 a0k (by kernel_rfl) fun K hK => ?_ | refine a0p (id := 15) 12 a0k (by kernel_rfl) fun K hK => ?_ | refine a0p (id := 14) 11 a0k (by kernel_rfl) fun K hK => ?_ | refine a0p (id := 5) 11 a0k (by kernel_rfl) fun K hK => ?_ | refine stp ?_
  | (with_reducible refine stpK ?_; intro K hK)
  | (with_reducible refine stpC ?_; intro T E hT hE)
  | (with_reducible refine stp2 ?_ ?_ <;> intro h)
  | with_reducible first | refine a0q rfl ?_ | refine a0t rfl (Nat.le_of_ble_eq_true rfl) a0s ?_ | refine a0t rfl (Nat.le_of_ble_eq_true rfl) (a0r (by simp [HPXB, a3a, nB, nB1, ext, upd, *])) ?_ | refine a1v (by decide) (by kernel_rfl) ?_ | refine a0x (by decide) ?_
  | (with_reducible refine Kont.go hK ?_; clear hK K)
  | ((with_reducible first | refine KT.go hT ?_ | refine KT.go hE ?_); clear hT hE T E)
  | simp [*, -List.all_flatten, -List.all_eq_true, DEFB, LENB, a3a, a4b, a3o, a1a, a3y, a3z, a3f, a2u, a7f, a7g, a6p, List.length_set, a2u, a2j, a0g, a2x, a2i]
end Go.He
