/- Parts of the proof. -/
import Derived.Test.YtfhhgjbcenhdeaaR41
import Derived.Test.YtfhhgjbcenhdeaaR17
import Derived.Test.YtfhhgjbcenhdeaaR40
set_option linter.unusedSimpArgs false
set_option linter.unusedVariables false
namespace Go.He
open Go Go.FM Go.Gv Go.Proofs
set_option maxRecDepth 100000
set_option maxHeartbeats 40000000
theorem BsS.of {L : List (FM.Loc × FO)} (hl : hdN 7 (L.map Prod.fst) = true) (ho : ninL (inH (HP L noH noH)) L) : BsS (updL L noH) := by
 have hout : ∀ k r, k ≠ 7 -> updL L noH (k :: r) = none := fun k r hk => by
  rw [a8z fun p hp e => ?_]
  . rfl
  . obtain ⟨q, hq⟩ := a8p hl p.1 (List.mem_map.2 ⟨p, hp, rfl⟩)
    rw [e] at hq
    simp only [List.cons.injEq] at hq
    exact hk hq.1
 refine ⟨fun k r hk => hout k r (by omega), fun k r h1 h2 => hout k r (by omega), fun l o h => ?_⟩
 rcases b0y h with h | ⟨_, h⟩
 . exact a5p (fun q hq => hq) (b6b ho _ h)
 . cases h
theorem g3z {L : List (FM.Loc × FO)} {B : Heap} {p : Pg} {y : Pts} {b : Bool} : HP (([88], .cells 4 1 [[.bool b]]) :: L) B (MN p y) = HP L B (MF p y b) := by
 rw [d5r (show MN p y [88] = none from rfl)]
 congr 1
 funext k
 unfold upd
 by_cases e : k = [88]
 . subst e; rfl
 . rw [if_neg e, b5q e]
   unfold MF
   split <;> first | rfl | exact absurd rfl e
structure PgB (p : Pg) : Prop where
 f : p.funcs.length <= 2000000
 g : p.globals.length <= 2000000
 l : p.layouts.length <= 2000000
 ll : ∀ x ∈ p.layouts, x.length <= 2000000
 c : ∀ x ∈ p.funcs, x.code.length <= 2000000
theorem f0n {p : Pg} (hp : VOk p) {L : List (FM.Loc × FO)} {B : Heap} {Y : Pts} (t : SL) {l : List Int} (hy : Shp p Y) (hB : BsN p 7 B) (ht : t.ok Y) (h0 : getS Y t = []) (hl : l.length <= 1000000000) (hL : hdN 7 (L.map Prod.fst) = true) (hn : ninL (inH (HP L B (MN p Y))) L) :
 FCr Try.prog Gl 29 [.ptr [81] 8 0 0, .mp t.loc, .list 1 (ints l)] (HP [] (updL L B) (MN p Y)) (OutL p (updL L B) Y t l) := e8w hp hy (hB.call 2 (by decide) hy hL hn) ht h0 hl
theorem f5c {p : Pg} (hp : VOk p) {m : Bool} {fk : FuncId} (hCT : CT p m fk) (hfk : fnOk Try.prog fk = true) {L : List (FM.Loc × FO)} {B : Heap} {Y : Pts} {g : Bool} (hy : Shp p Y) (hB : BsM p 7 B) (hL : hdN 7 (L.map Prod.fst) = true) (hn : ninL (inH (HP L B (MF p Y g))) L) :
 FCr Try.prog Gl 30 [.ptr [81] 8 0 0, .clo fk [] [.ptr [88] 1 0 0]] (HP [] (updL L B) (MF p Y g)) (OutT p m (updL L B) (a5q p) Y g) := c1u hp hCT hfk hy (hB.call 4 (by decide) hy hL hn)
open Classical in
noncomputable def a3e (p : Pg) (x : Pts) : Bool := a2q p && (a8q p x && decide (a5q p x))
theorem d6j {p : Pg} (hb : PgB p) (x : Pts) (hv : a2q p = false) : PC Try.prog Gl 18 [.agg [.list 4 (fns p.funcs), .list 2 (gbs p.globals), .list 1 (lays p.layouts), .int .i64 p.main], .agg [.list 2 (sits x.sites), .list 1 (lls x.regs), .list 1 (lays x.cells)]] (.bool (a3e p x)) := by
 have hsv := fun (hp : VOk p) => a2b hp
 have hval : PC Try.prog Gl 26 [.agg [.list 4 (fns p.funcs), .list 2 (gbs p.globals), .list 1 (lays p.layouts), .int .i64 p.main]] (.bool (a2q p)) := by rw [<- b3i]; exact c19 p hb.f hb.g hb.l hb.ll hb.c
 refine a3w (res := [.tmp 4]) 13 114 [51, 50, 49, 69, 68, 67, 93, 92, 91] (fun d ix => 7 :: d :: ix) (fn := Try.f18) (by kernel_rfl) (by rfl) (by rfl) (by rfl) (by simp) (by decide) ?_
 repeat' first
  | with_reducible first | refine a0p (id := 4) 30 a0k (by kernel_rfl) fun K hK => ?_ | refine stp ?_
  | (with_reducible refine stpK ?_; intro K hK)
  | (with_reducible refine stpC ?_; intro T E hT hE)
  | (with_reducible refine stp2 ?_ ?_ <;> intro h)
  | with_reducible first | refine a0q rfl ?_ | refine a1n hval (by simp [nls, nl, *, NLXB]) ?_ | refine hpc hval (by simp [nls, nl, *, NLXB]) ?_ | refine a0t rfl (Nat.le_of_ble_eq_true rfl) a0s ?_ | refine a0t rfl (Nat.le_of_ble_eq_true rfl) (a0r (by simp [HPXB, a7x, a2d, ext, upd, *])) ?_ | refine a1v (by decide) (by kernel_rfl) ?_ | refine a0x (by decide) ?_
  | (with_reducible refine Kont.go hK ?_; clear hK K)
  | ((with_reducible first | refine KT.go hT ?_ | refine KT.go hE ?_); clear hT hE T E)
  | simp [*, -List.all_flatten, -List.all_eq_true, DEFM, a2e, a1u, a2d, hdN, a1i, a0w, a2g, a7x, a4y, a3h, a8b, a0g, a2x, a5y, a2i, a2a, a5e, a2c, a0a, a1d, a0c, a0f, b1r, b4y, b4x, b4w, a1m, a0y, a0z, a2n, a2o, a2p, anR, a3k, MG_t, MG_f, a5s, a3e]
theorem _root_.Go.Gv.Ld.zero {p : Pg} (hp : VOk p) (x : Pts) : Gv.Ld p x 0 0 0 (a4k p) := by
 refine ⟨(a6a hp).shp, fun t => ?_⟩
 have e : Gv.ldd 0 0 0 t = false := by cases t <;> simp [Gv.ldd]
 rw [e, if_neg (by simp)]
 cases t with
 | r g a =>
   simp only [Gv.getS, Gv.rg, a4k, List.getD_eq_getElem?_getD, List.getElem?_map, Int.toNat_natCast]
   cases p.funcs[g]? with
   | none => simp
   | some f => by_cases h : a < f.regs.toNat <;> simp [List.getElem?_replicate, h]
 | c o =>
   simp only [Gv.getS, Gv.cl, a4k, List.getD_eq_getElem?_getD, List.getElem?_replicate, Int.toNat_natCast]
   split <;> rfl
theorem f5w (p : Pg) (y : Pts) : MN p y [88] = none := rfl
theorem e0u {p : Pg} {l : List Int} (h : setB l ((a0d p).length : Int) = true) : okA (a0d p).length l := (b1t.1 h).a
theorem f0q {p : Pg} {x Y : Pts} {f r : Nat} (hf : f < x.regs.length) (hr : r < x.regs[f].length) (h : Gv.Ld p x f r 0 Y) (ht : (SL.r f r).ok Y) (hs : setB x.regs[f][r] ((a0d p).length : Int) = true) : Gv.Ld p x f (r + 1) 0 (setS Y (.r f r) x.regs[f][r]) := by
 have e : getS x (.r f r) = x.regs[f][r] := c8z hf hr
 have := h.setR ht (by rw [e]; exact e0u hs)
 rwa [e] at this
theorem e5f {p : Pg} {x Y : Pts} {f o : Nat} (ho : o < x.cells.length) (h : Gv.Ld p x f 0 o Y) (ht : (SL.c o).ok Y) (hs : setB x.cells[o] ((a0d p).length : Int) = true) : Gv.Ld p x f 0 (o + 1) (setS Y (.c o) x.cells[o]) := by
 have e : getS x (.c o) = x.cells[o] := c9t ho
 have := h.setC ht (by rw [e]; exact e0u hs)
 rwa [e] at this
theorem e5e {p : Pg} {x Y : Pts} {f : Nat} (hf : f < x.regs.length) (h : Gv.Ld p x f x.regs[f].length 0 Y) : Gv.Ld p x (f + 1) 0 0 Y := by
 refine h.next ?_
 rw [List.getD_eq_getElem?_getD, List.getElem?_eq_getElem hf]
 exact Nat.le_refl _
theorem g1l {p : Pg} {x Y : Pts} {f r : Nat} (h : Gv.Ld p x f r 0 Y) : getS Y (.r f r) = [] := by
 rw [h.at' (.r f r), if_neg (by simp [ldd])]
theorem g1m {p : Pg} {x Y : Pts} {f o : Nat} (h : Gv.Ld p x f 0 o Y) : getS Y (.c o) = [] := by
 rw [h.at' (.c o), if_neg (by simp [ldd])]
theorem e0p {Y : Pts} {f r : Nat} (hf : f < Y.regs.length) (hr : r < Y.regs[f].length) : (SL.r f r).ok Y := ⟨hf, by rw [List.getD_eq_getElem?_getD, List.getElem?_eq_getElem hf]; exact hr⟩
section
variable {P : Program} {c : Cfg} {ops : Array Oper} {Φ : Fs -> Prop} {s : Fs}
theorem e2t {d : Option Tmp} {u : UnOp} {t : TypeId} {x : Operand} {ty : TypeId} {po : String} {af : Array Edge} {g : Option (Nat × Bool)} (h : wOps P c ops [{ dst := d, op := .unOp u t x, type := ty, pos := po, after := af, guard := g }] Φ s) : WL P c ops [{ dst := d, op := .unOp u t x, type := ty, pos := po, after := af, guard := g }] Φ s := b3d h
end
open Classical in
theorem e3q {p : Pg} {x Z Y : Pts} {g : Bool} (hv : a2q p = true) (hf : a8q p x = true) (hz : Z = x) (hT : TR true (a5q p) (a5q p) Z true Y g) : g = a3e p x := by
 subst hz
 unfold a3e
 rw [hv, hf, Bool.true_and, Bool.true_and]
 by_cases hc : a5q p Z
 . rw [decide_eq_true hc]; exact (hT.snd rfl).2 rfl hc
 . rw [decide_eq_false hc]
   cases hg : g with
   | false => rfl
   | true => exact absurd (hT.good hg).2.2 hc
theorem b5v {p : Pg} {x : Pts} (h : a8q p x = false) : a3e p x = false := by simp [a3e, h]
open Classical in
theorem b1o {p : Pg} {x : Pts} (h : a8q p x = true) : Gv.Form p x := by
 unfold a8q at h; exact of_decide_eq_true h
theorem d6i {p : Pg} (hb : PgB p) {x : Pts} (hx : PtB 2000000 x) (hv : a2q p = true) (d1 : x.sites = a0d p) (d2 : x.regs.length = p.funcs.length) (d3 : x.cells.length = (a0d p).length) : PC Try.prog Gl 18 [.agg [.list 4 (fns p.funcs), .list 2 (gbs p.globals), .list 1 (lays p.layouts), .int .i64 p.main], .agg [.list 2 (sits x.sites), .list 1 (lls x.regs), .list 1 (lays x.cells)]] (.bool (a3e p x)) := by
 have hsv := fun (hp : VOk p) => a2b hp
 have hval : PC Try.prog Gl 26 [.agg [.list 4 (fns p.funcs), .list 2 (gbs p.globals), .list 1 (lays p.layouts), .int .i64 p.main]] (.bool (a2q p)) := by rw [<- b3i]; exact c19 p hb.f hb.g hb.l hb.ll hb.c
 have hp := vOk hv
 have hs := a2b hp
 have hE := (a6a hp).shp
 have hEc := hE.cn
 have hEr := hE.rn
 have heq := b5u (a := x.sites) (b := a0d p) hx.s
 have hnf := hp.nf
 have hY := hE
 have h81 : ∀ (L : List (FM.Loc × FO)) (Y : Pts), inH (HP L noH (MN p Y)) [81] := fun L Y => a3p b1r
 rw [d1, show decide (a0d p = a0d p) = true from by simp] at heq
 have d2' : ((x.regs.length : Int) = (p.funcs.length : Int)) = (x.regs.length = p.funcs.length) := propext (by omega)
 have d3' : ((x.cells.length : Int) = ((a0d p).length : Int)) = (x.cells.length = (a0d p).length) := propext (by omega)
 refine a3w (res := [.tmp 4]) 13 114 [51, 50, 49, 69, 68, 67, 93, 92, 91] (fun d ix => 7 :: d :: ix) (fn := Try.f18) (by kernel_rfl) (by rfl) (by rfl) (by rfl) (by simp) (by decide) ?_
 repeat' first
  | ((with_reducible refine cgH ?_); refine a4z rfl (b9h hp (BsS.of (by rfl) ?_)) ?_; (focus (first | rfl | (simp [ninL, ninO, a3m, nins, nin, a0e, a0i, a0a, a1d, a0c, a0b, a2c, mapO, a2f, a2g, a1i, a0w, hdN, *]; done))))
  | ((with_reducible refine a1o ?_); refine a2h (σ := {y : Nat × Pts // y.1 <= p.funcs.length /\ Gv.Ld p x y.1 0 0 y.2 /\ fm2 p x y.1}) (fun y => [(6, .undef), (7, .undef), (8, .undef), (9, .undef)]) [50, 49] (fun y => [(51, .int .i64 (y.1.1 : Int))]) [] (fun y => []) (fun y => MN p y.1.2) (fun y => p.funcs.length - y.1.1) ⟨(0, a4k p), by simp, Gv.Ld.zero hp x, f1h p x⟩ (gk3i (j := 7) [] (bsMN hY 7 (by decide)) ?_ ?_ ?_ ?_ ?_ ?_ ?_) ?_; (iterate 7 (focus (first | rfl | (simp [LPXB, *, SIMB, hdN, injB, a2e, a1u, a2d, hdN, a1i, a0w, a2g, a7x, a4y, a3h, a8b, a0g, a2x, a5y, a2i, a2a, a5e, a2c, a0a, a1d, a0c, a0f, b1r, b4y, b4x, b4w, a1m, a0y, a0z, a2n, a2o, a2p, anR, a3k, MG_t, MG_f, a5s, h81]; done)))); rintro ⟨⟨f, Y⟩, hf, hld, hfm⟩; simp only [lpS, LPXB]; (try dsimp only at hf hld hfm); have hY := hld.shp; rcases a1l hf with hlf | ⟨hlf, he⟩; rotate_left; subst f; rotate_left; have wf := wli hlf (by omega); have hfY : f < Y.regs.length := (by rw [hY.rn]; exact hlf); have hfx : f < x.regs.length := (by omega); have hR1 : f < (rowR Y.regs).length := (by simpa [a1m] using hfY); have hYl := hY.fn f hfY hlf; have hrr := hp.regs (List.getElem_mem hlf); by_cases hxl : ((x.regs[f]'hfx).length : Int) = (p.funcs[f]'hlf).regs; rotate_left; have hsb : a3e p x = false := b5v (c7f hfx hlf (fun e => hxl (by have := hrr.p0; have := hrr.p1; omega))); rotate_right; have hYr : (Y.regs[f]'hfY).length <= 64 := (by have := hrr.r64; omega))
  | ((with_reducible refine a1o ?_); refine a2h (σ := {y : Nat × Pts // y.1 <= (x.regs[f]'hfx).length /\ Gv.Ld p x f y.1 0 y.2 /\ fm3 p (x.regs[f]'hfx) y.1}) (fun y => [(8, .undef), (9, .undef)]) [68, 67, 51, 50, 49] (fun y => [(69, .int .i64 (y.1.1 : Int))]) [] (fun y => []) (fun y => MN p y.1.2) (fun y => (x.regs[f]'hfx).length - y.1.1) ⟨(0, Y), by simp, hld, f1f p _⟩ (gk3i (j := 7) [] (bsMN hY 7 (by decide)) ?_ ?_ ?_ ?_ ?_ ?_ ?_) ?_; (iterate 7 (focus (first | rfl | (simp [LPXB, *, SIMB, hdN, injB, a2e, a1u, a2d, hdN, a1i, a0w, a2g, a7x, a4y, a3h, a8b, a0g, a2x, a5y, a2i, a2a, a5e, a2c, a0a, a1d, a0c, a0f, b1r, b4y, b4x, b4w, a1m, a0y, a0z, a2n, a2o, a2p, anR, a3k, MG_t, MG_f, a5s, h81]; done)))); rintro ⟨⟨r, Z⟩, hr, hlz, hf3⟩; simp only [lpS, LPXB]; (try dsimp only at hr hlz hf3); have hZ := hlz.shp; rcases a1l hr with hlr | ⟨hlr, he⟩; rotate_left; subst r; rotate_left; have wr := wli hlr (by omega); have hlr' : (r : Int) < (p.funcs[f]'hlf).regs := (by omega); have hfZ : f < Z.regs.length := (by rw [hZ.rn]; exact hlf); have hR2 : f < (rowR Z.regs).length := (by simpa [a1m] using hfZ); have hZl := hZ.fn f hfZ hlf; have hrZ : r < (Z.regs[f]'hfZ).length := (by omega); have hM2 : r < (rowM f (Z.regs[f]'hfZ)).length := (by simpa [a0y] using hrZ); have hq0 := hx.rs _ (List.getElem_mem hfx) _ (List.getElem_mem hlr); cases hsb : setB ((x.regs[f]'hfx)[r]'hlr) ((a0d p).length : Int); have hsn : a3e p x = false := b5v (c7e hfx hlr hsb); rotate_left)
  | ((with_reducible refine a1j ?_); refine a1w (⟨(r + 1, setS Z (.r f r) ((x.regs[f]'hfx)[r]'hlr)), by omega, f0q hfx hlr hlz (e0p hfZ hrZ) hsb, f1e hf3 hlr hsb⟩) (gk3i (j := 7) [] (bsMN hZ2 7 (by decide)) ?_ ?_ ?_ ?_ ?_ ?_ ?_) ?_; (iterate 7 (focus (first | rfl | (simp [LPXB, *, SIMB, hdN, injB, a2e, a1u, a2d, hdN, a1i, a0w, a2g, a7x, a4y, a3h, a8b, a0g, a2x, a5y, a2i, a2a, a5e, a2c, a0a, a1d, a0c, a0f, b1r, b4y, b4x, b4w, a1m, a0y, a0z, a2n, a2o, a2p, anR, a3k, MG_t, MG_f, a5s, h81]; done)))); (focus (dsimp only; omega)))
  | ((with_reducible refine a1j ?_); refine a1w (⟨(f + 1, Z), by omega, e5e hfx hlz, f1g hfm hfx hlf (by omega) hf3⟩) (gk3i (j := 7) [] (bsMN hZ 7 (by decide)) ?_ ?_ ?_ ?_ ?_ ?_ ?_) ?_; (iterate 7 (focus (first | rfl | (simp [LPXB, *, SIMB, hdN, injB, a2e, a1u, a2d, hdN, a1i, a0w, a2g, a7x, a4y, a3h, a8b, a0g, a2x, a5y, a2i, a2a, a5e, a2c, a0a, a1d, a0c, a0f, b1r, b4y, b4x, b4w, a1m, a0y, a0z, a2n, a2o, a2p, anR, a3k, MG_t, MG_f, a5s, h81]; done)))); (focus (dsimp only; omega)))
  | ((with_reducible refine a1o ?_); refine a2h (σ := {y : Nat × Pts // y.1 <= x.cells.length /\ Gv.Ld p x p.funcs.length 0 y.1 y.2 /\ fm1 p x y.1}) (fun y => [(10, .undef), (11, .undef)]) [92, 91] (fun y => [(93, .int .i64 (y.1.1 : Int))]) [] (fun y => []) (fun y => MN p y.1.2) (fun y => x.cells.length - y.1.1) ⟨(0, Y), by simp, hld, f1j p _⟩ (gk3i (j := 7) [] (bsMN hY 7 (by decide)) ?_ ?_ ?_ ?_ ?_ ?_ ?_) ?_; (iterate 7 (focus (first | rfl | (simp [LPXB, *, SIMB, hdN, injB, a2e, a1u, a2d, hdN, a1i, a0w, a2g, a7x, a4y, a3h, a8b, a0g, a2x, a5y, a2i, a2a, a5e, a2c, a0a, a1d, a0c, a0f, b1r, b4y, b4x, b4w, a1m, a0y, a0z, a2n, a2o, a2p, anR, a3k, MG_t, MG_f, a5s, h81]; done)))); rintro ⟨⟨o, Z⟩, ho, hlz, hf1⟩; simp only [lpS, LPXB]; (try dsimp only at ho hlz hf1); have hZ := hlz.shp; rcases a1l ho with hlo | ⟨hlo, he⟩; rotate_left; subst o; have hfB : a8q p x = true := c7g (by rw [d1]) d3 d2 (by rw [<- d3]; exact hf1) (by rw [d2]; exact hfm); have hzx : Z = x := Gv.Ld.eq (by rw [<- d3]; exact hlz) (b1o hfB); have hX := (b1o hfB).shp; rotate_left; have wo := wli hlo (by have := hx.c; omega); have hlo' : o < (a0d p).length := (by omega); have hoZ : o < Z.cells.length := (by rw [hZ.cn]; omega); have hC2 : o < (rowC Z.cells).length := (by simpa [a0z] using hoZ); have hq0 := hx.cs _ (List.getElem_mem hlo); cases hsb : setB (x.cells[o]'hlo) ((a0d p).length : Int); have hsn : a3e p x = false := b5v (c2n hlo hsb); rotate_left)
  | ((with_reducible refine a1j ?_); refine a1w (⟨(o + 1, setS Z (.c o) (x.cells[o]'hlo)), by omega, e5f hlo hlz hoZ hsb, f1i hf1 (by rw [d1]; omega) (by omega) hlo (by simp [d1]) hsb⟩) (gk3i (j := 7) [] (bsMN hZ2 7 (by decide)) ?_ ?_ ?_ ?_ ?_ ?_ ?_) ?_; (iterate 7 (focus (first | rfl | (simp [LPXB, *, SIMB, hdN, injB, a2e, a1u, a2d, hdN, a1i, a0w, a2g, a7x, a4y, a3h, a8b, a0g, a2x, a5y, a2i, a2a, a5e, a2c, a0a, a1d, a0c, a0f, b1r, b4y, b4x, b4w, a1m, a0y, a0z, a2n, a2o, a2p, anR, a3k, MG_t, MG_f, a5s, h81]; done)))); (focus (dsimp only; omega)))
  | ((with_reducible refine a1y (id := 14) fun K hK => ?_); refine a1k 12 ?_)
  | ((with_reducible refine a1y (id := 21) fun K hK => ?_); refine a1k 9 ?_)
  | ((with_reducible refine a1y (id := 25) fun K hK => ?_); refine e8n (gk5i (vs1 := [.undef, .undef, .undef, .undef, .bool false, .ptr [81] 8 0 0, .undef, .undef, .undef, .undef, .undef, .undef, .ptr [88] 1 0 0]) (tm1 := []) (ix1 := []) (L1 := [([88], .cells 4 1 [[.bool true]])]) [([88], some [7, 12])] g3z (by rfl) ?_ ?_ (bsMN hX 7 (by decide)).clo (fun _ h => h.elim) ?_ ?_ ?_) ?_; (focus (intro n hn; simp at hn; (try dsimp only); rcases hn with rfl | rfl <;> simp [a3d, a7x, f5w, a4y])); (focus (intro q hq; simp at hq; rcases hq with rfl | rfl | rfl <;> simp [a3d, a7x, a4y])); (focus (simp [*, SIMB, a2e, a1u, a2d, hdN, a1i, a0w, a2g, a7x, a4y, a3h, a8b, a0g, a2x, a5y, a2i, a2a, a5e, a2c, a0a, a1d, a0c, a0f, b1r, b4y, b4x, b4w, a1m, a0y, a0z, a2n, a2o, a2p, anR, a3k, MG_t, MG_f, a5s, h81]; done)); (focus (first | trivial | (simp [simT]; done))); (focus (simp [*, SIMB, a2e, a1u, a2d, hdN, a1i, a0w, a2g, a7x, a4y, a3h, a8b, a0g, a2x, a5y, a2i, a2a, a5e, a2c, a0a, a1d, a0c, a0f, b1r, b4y, b4x, b4w, a1m, a0y, a0z, a2n, a2o, a2p, anR, a3k, MG_t, MG_f, a5s, h81]; done)); refine a1k 2 ?_)
  | ((with_reducible refine mdH ?_); refine a3g (by kernel_rfl) (fun d hd => ?_) rfl (f0n hp (.r f r) hZ (bsN0 p 7 (by decide)) (e0p hfZ hrZ) (g1l hlz) (Nat.le_trans hq0 (by decide)) ?_ ?_) ?_; (focus (cases hd; exact Nat.le_of_ble_eq_true rfl)); (focus rfl); (focus (first | rfl | (simp [ninL, ninO, a3m, nins, nin, a0e, a0i, a0a, a1d, a0c, a0b, a2c, mapO, a2f, a2g, a1i, a0w, hdN, *]; done))); (rintro r' H' ⟨rfl, Z2, rfl, hZ2, hset⟩); rw [hsb]; (try (simp only [hsb, forall_const, true_imp_iff, Bool.false_eq_true, false_imp_iff] at hset)); (try subst hset))
  | ((with_reducible refine mdH ?_); refine a3g (by kernel_rfl) (fun d hd => ?_) rfl (f0n hp (.c o) hZ (bsN0 p 7 (by decide)) hoZ (g1m hlz) (Nat.le_trans hq0 (by decide)) ?_ ?_) ?_; (focus (cases hd; exact Nat.le_of_ble_eq_true rfl)); (focus rfl); (focus (first | rfl | (simp [ninL, ninO, a3m, nins, nin, a0e, a0i, a0a, a1d, a0c, a0b, a2c, mapO, a2f, a2g, a1i, a0w, hdN, *]; done))); (rintro r' H' ⟨rfl, Z2, rfl, hZ2, hset⟩); rw [hsb]; (try (simp only [hsb, forall_const, true_imp_iff, Bool.false_eq_true, false_imp_iff] at hset)); (try subst hset))
  | ((with_reducible refine mdH ?_); refine a3g (by kernel_rfl) (fun d hd => ?_) rfl (f5c hp (m := true) (f5b p) (by kernel_rfl) (L := []) hX (bsM0 p 7 (by decide)) (by rfl) trivial) ?_; (focus (cases hd; exact Nat.le_of_ble_eq_true rfl)); (rintro r' H' ⟨rfl, Z2, g2, rfl, hZ2, hT⟩); have hg := e3q hv hfB rfl hT)
  | (with_reducible refine a5n ?_)
  | (with_reducible refine e2t ?_)
  | (with_reducible refine a7z ?_)
  | with_reducible first | refine a0p (id := 4) 30 a0k (by kernel_rfl) fun K hK => ?_ | refine stp ?_
  | (with_reducible refine stpK ?_; intro K hK)
  | (with_reducible refine stpC ?_; intro T E hT hE)
  | (with_reducible refine stp2 ?_ ?_ <;> intro h)
  | with_reducible first | refine a0q rfl ?_ | refine a1n hval (by simp [nls, nl, *, NLXB]) ?_ | refine hpc hval (by simp [nls, nl, *, NLXB]) ?_ | refine a1n heq (by simp [nls, nl, *, NLXB]) ?_ | refine hpc heq (by simp [nls, nl, *, NLXB]) ?_ | refine a0t rfl (Nat.le_of_ble_eq_true rfl) a0s ?_ | refine a0t rfl (Nat.le_of_ble_eq_true rfl) (a0r (by simp [HPXB, a7x, a2d, ext, upd, *])) ?_ | refine a1v (by decide) (by kernel_rfl) ?_ | refine a0x (by decide) ?_
  | (with_reducible refine Kont.go hK ?_; clear hK K)
  | ((with_reducible first | refine KT.go hT ?_ | refine KT.go hE ?_); clear hT hE T E)
  | simp [*, -List.all_flatten, -List.all_eq_true, DEFM, a2e, a1u, a2d, hdN, a1i, a0w, a2g, a7x, a4y, a3h, a8b, a0g, a2x, a5y, a2i, a2a, a5e, a2c, a0a, a1d, a0c, a0f, b1r, b4y, b4x, b4w, a1m, a0y, a0z, a2n, a2o, a2p, anR, a3k, MG_t, MG_f, a5s, e0d]
theorem d0n {p : Pg} (hb : PgB p) {x : Pts} (hx : PtB 2000000 x) (hv : a2q p = true) (d1 : ¬ x.sites = a0d p) : PC Try.prog Gl 18 [.agg [.list 4 (fns p.funcs), .list 2 (gbs p.globals), .list 1 (lays p.layouts), .int .i64 p.main], .agg [.list 2 (sits x.sites), .list 1 (lls x.regs), .list 1 (lays x.cells)]] (.bool (a3e p x)) := by
 have hsv := fun (hp : VOk p) => a2b hp
 have hval : PC Try.prog Gl 26 [.agg [.list 4 (fns p.funcs), .list 2 (gbs p.globals), .list 1 (lays p.layouts), .int .i64 p.main]] (.bool (a2q p)) := by rw [<- b3i]; exact c19 p hb.f hb.g hb.l hb.ll hb.c
 have hp := vOk hv
 have hs := a2b hp
 have hE := (a6a hp).shp
 have hEc := hE.cn
 have hEr := hE.rn
 have heq := b5u (a := x.sites) (b := a0d p) hx.s
 have hnf := hp.nf
 have d2' : ((x.regs.length : Int) = (p.funcs.length : Int)) = (x.regs.length = p.funcs.length) := propext (by omega)
 have d3' : ((x.cells.length : Int) = ((a0d p).length : Int)) = (x.cells.length = (a0d p).length) := propext (by omega)
 have hsb : a3e p x = false := by
  have : a8q p x = false := a7o fun h => d1 h.sites
  simp [a3e, this]
 refine a3w (res := [.tmp 4]) 13 114 [51, 50, 49, 69, 68, 67, 93, 92, 91] (fun d ix => 7 :: d :: ix) (fn := Try.f18) (by kernel_rfl) (by rfl) (by rfl) (by rfl) (by simp) (by decide) ?_
 repeat' first
  | ((with_reducible refine cgH ?_); refine a4z rfl (b9h hp (BsS.of (by rfl) ?_)) ?_; (focus (first | rfl | (simp [ninL, ninO, a3m, nins, nin, a0e, a0i, a0a, a1d, a0c, a0b, a2c, mapO, a2f, a2g, a1i, a0w, hdN, *]; done))))
  | with_reducible first | refine a0p (id := 4) 30 a0k (by kernel_rfl) fun K hK => ?_ | refine stp ?_
  | (with_reducible refine stpK ?_; intro K hK)
  | (with_reducible refine stpC ?_; intro T E hT hE)
  | (with_reducible refine stp2 ?_ ?_ <;> intro h)
  | with_reducible first | refine a0q rfl ?_ | refine a1n hval (by simp [nls, nl, *, NLXB]) ?_ | refine hpc hval (by simp [nls, nl, *, NLXB]) ?_ | refine a1n heq (by simp [nls, nl, *, NLXB]) ?_ | refine hpc heq (by simp [nls, nl, *, NLXB]) ?_ | refine a0t rfl (Nat.le_of_ble_eq_true rfl) a0s ?_ | refine a0t rfl (Nat.le_of_ble_eq_true rfl) (a0r (by simp [HPXB, a7x, a2d, ext, upd, *])) ?_ | refine a1v (by decide) (by kernel_rfl) ?_ | refine a0x (by decide) ?_
  | (with_reducible refine Kont.go hK ?_; clear hK K)
  | ((with_reducible first | refine KT.go hT ?_ | refine KT.go hE ?_); clear hT hE T E)
  | simp [*, -List.all_flatten, -List.all_eq_true, DEFM, a2e, a1u, a2d, hdN, a1i, a0w, a2g, a7x, a4y, a3h, a8b, a0g, a2x, a5y, a2i, a2a, a5e, a2c, a0a, a1d, a0c, a0f, b1r, b4y, b4x, b4w, a1m, a0y, a0z, a2n, a2o, a2p, anR, a3k, MG_t, MG_f, a5s, hsb]
theorem d0m {p : Pg} (hb : PgB p) {x : Pts} (hx : PtB 2000000 x) (hv : a2q p = true) (d1 : x.sites = a0d p) (d2 : ¬ x.regs.length = p.funcs.length) : PC Try.prog Gl 18 [.agg [.list 4 (fns p.funcs), .list 2 (gbs p.globals), .list 1 (lays p.layouts), .int .i64 p.main], .agg [.list 2 (sits x.sites), .list 1 (lls x.regs), .list 1 (lays x.cells)]] (.bool (a3e p x)) := by
 have hsv := fun (hp : VOk p) => a2b hp
 have hval : PC Try.prog Gl 26 [.agg [.list 4 (fns p.funcs), .list 2 (gbs p.globals), .list 1 (lays p.layouts), .int .i64 p.main]] (.bool (a2q p)) := by rw [<- b3i]; exact c19 p hb.f hb.g hb.l hb.ll hb.c
 have hp := vOk hv
 have hs := a2b hp
 have hE := (a6a hp).shp
 have hEc := hE.cn
 have hEr := hE.rn
 have heq := b5u (a := x.sites) (b := a0d p) hx.s
 have hnf := hp.nf
 rw [d1, show decide (a0d p = a0d p) = true from by simp] at heq
 have d2' : ((x.regs.length : Int) = (p.funcs.length : Int)) = (x.regs.length = p.funcs.length) := propext (by omega)
 have d3' : ((x.cells.length : Int) = ((a0d p).length : Int)) = (x.cells.length = (a0d p).length) := propext (by omega)
 have hsb : a3e p x = false := by
  have : a8q p x = false := a7o fun h => d2 h.rn
  simp [a3e, this]
 refine a3w (res := [.tmp 4]) 13 114 [51, 50, 49, 69, 68, 67, 93, 92, 91] (fun d ix => 7 :: d :: ix) (fn := Try.f18) (by kernel_rfl) (by rfl) (by rfl) (by rfl) (by simp) (by decide) ?_
 repeat' first
  | ((with_reducible refine cgH ?_); refine a4z rfl (b9h hp (BsS.of (by rfl) ?_)) ?_; (focus (first | rfl | (simp [ninL, ninO, a3m, nins, nin, a0e, a0i, a0a, a1d, a0c, a0b, a2c, mapO, a2f, a2g, a1i, a0w, hdN, *]; done))))
  | with_reducible first | refine a0p (id := 4) 30 a0k (by kernel_rfl) fun K hK => ?_ | refine stp ?_
  | (with_reducible refine stpK ?_; intro K hK)
  | (with_reducible refine stpC ?_; intro T E hT hE)
  | (with_reducible refine stp2 ?_ ?_ <;> intro h)
  | with_reducible first | refine a0q rfl ?_ | refine a1n hval (by simp [nls, nl, *, NLXB]) ?_ | refine hpc hval (by simp [nls, nl, *, NLXB]) ?_ | refine a1n heq (by simp [nls, nl, *, NLXB]) ?_ | refine hpc heq (by simp [nls, nl, *, NLXB]) ?_ | refine a0t rfl (Nat.le_of_ble_eq_true rfl) a0s ?_ | refine a0t rfl (Nat.le_of_ble_eq_true rfl) (a0r (by simp [HPXB, a7x, a2d, ext, upd, *])) ?_ | refine a1v (by decide) (by kernel_rfl) ?_ | refine a0x (by decide) ?_
  | (with_reducible refine Kont.go hK ?_; clear hK K)
  | ((with_reducible first | refine KT.go hT ?_ | refine KT.go hE ?_); clear hT hE T E)
  | simp [*, -List.all_flatten, -List.all_eq_true, DEFM, a2e, a1u, a2d, hdN, a1i, a0w, a2g, a7x, a4y, a3h, a8b, a0g, a2x, a5y, a2i, a2a, a5e, a2c, a0a, a1d, a0c, a0f, b1r, b4y, b4x, b4w, a1m, a0y, a0z, a2n, a2o, a2p, anR, a3k, MG_t, MG_f, a5s, hsb]
theorem d0l {p : Pg} (hb : PgB p) {x : Pts} (hx : PtB 2000000 x) (hv : a2q p = true) (d1 : x.sites = a0d p) (d2 : x.regs.length = p.funcs.length) (d3 : ¬ x.cells.length = (a0d p).length) : PC Try.prog Gl 18 [.agg [.list 4 (fns p.funcs), .list 2 (gbs p.globals), .list 1 (lays p.layouts), .int .i64 p.main], .agg [.list 2 (sits x.sites), .list 1 (lls x.regs), .list 1 (lays x.cells)]] (.bool (a3e p x)) := by
 have hsv := fun (hp : VOk p) => a2b hp
 have hval : PC Try.prog Gl 26 [.agg [.list 4 (fns p.funcs), .list 2 (gbs p.globals), .list 1 (lays p.layouts), .int .i64 p.main]] (.bool (a2q p)) := by rw [<- b3i]; exact c19 p hb.f hb.g hb.l hb.ll hb.c
 have hp := vOk hv
 have hs := a2b hp
 have hE := (a6a hp).shp
 have hEc := hE.cn
 have hEr := hE.rn
 have heq := b5u (a := x.sites) (b := a0d p) hx.s
 have hnf := hp.nf
 rw [d1, show decide (a0d p = a0d p) = true from by simp] at heq
 have d2' : ((x.regs.length : Int) = (p.funcs.length : Int)) = (x.regs.length = p.funcs.length) := propext (by omega)
 have d3' : ((x.cells.length : Int) = ((a0d p).length : Int)) = (x.cells.length = (a0d p).length) := propext (by omega)
 have hsb : a3e p x = false := by
  have : a8q p x = false := a7o fun h => d3 h.cn
  simp [a3e, this]
 refine a3w (res := [.tmp 4]) 13 114 [51, 50, 49, 69, 68, 67, 93, 92, 91] (fun d ix => 7 :: d :: ix) (fn := Try.f18) (by kernel_rfl) (by rfl) (by rfl) (by rfl) (by simp) (by decide) ?_
 repeat' first
  | ((with_reducible refine cgH ?_); refine a4z rfl (b9h hp (BsS.of (by rfl) ?_)) ?_; (focus (first | rfl | (simp [ninL, ninO, a3m, nins, nin, a0e, a0i, a0a, a1d, a0c, a0b, a2c, mapO, a2f, a2g, a1i, a0w, hdN, *]; done))))
  | with_reducible first | refine a0p (id := 4) 30 a0k (by kernel_rfl) fun K hK => ?_ | refine stp ?_
  | (with_reducible refine stpK ?_; intro K hK)
  | (with_reducible refine stpC ?_; intro T E hT hE)
  | (with_reducible refine stp2 ?_ ?_ <;> intro h)
  | with_reducible first | refine a0q rfl ?_ | refine a1n hval (by simp [nls, nl, *, NLXB]) ?_ | refine hpc hval (by simp [nls, nl, *, NLXB]) ?_ | refine a1n heq (by simp [nls, nl, *, NLXB]) ?_ | refine hpc heq (by simp [nls, nl, *, NLXB]) ?_ | refine a0t rfl (Nat.le_of_ble_eq_true rfl) a0s ?_ | refine a0t rfl (Nat.le_of_ble_eq_true rfl) (a0r (by simp [HPXB, a7x, a2d, ext, upd, *])) ?_ | refine a1v (by decide) (by kernel_rfl) ?_ | refine a0x (by decide) ?_
  | (with_reducible refine Kont.go hK ?_; clear hK K)
  | ((with_reducible first | refine KT.go hT ?_ | refine KT.go hE ?_); clear hT hE T E)
  | simp [*, -List.all_flatten, -List.all_eq_true, DEFM, a2e, a1u, a2d, hdN, a1i, a0w, a2g, a7x, a4y, a3h, a8b, a0g, a2x, a5y, a2i, a2a, a5e, a2c, a0a, a1d, a0c, a0f, b1r, b4y, b4x, b4w, a1m, a0y, a0z, a2n, a2o, a2p, anR, a3k, MG_t, MG_f, a5s, hsb]
theorem e3j {p : Pg} (hb : PgB p) {x : Pts} (hx : PtB 2000000 x) : PC Try.prog Gl 18 [.agg [.list 4 (fns p.funcs), .list 2 (gbs p.globals), .list 1 (lays p.layouts), .int .i64 p.main], .agg [.list 2 (sits x.sites), .list 1 (lls x.regs), .list 1 (lays x.cells)]] (.bool (a3e p x)) := by
 cases hv : a2q p with
 | false => exact d6j hb x hv
 | true =>
   by_cases d1 : x.sites = a0d p
   . by_cases d2 : x.regs.length = p.funcs.length
     . by_cases d3 : x.cells.length = (a0d p).length
       . exact d6i hb hx hv d1 d2 d3
       . exact d0l hb hx hv d1 d2 d3
     . exact d0m hb hx hv d1 d2
   . exact d0n hb hx hv d1
theorem c8u {p : Pg} {x : Pts} (hv : a2q p = true) (hf : a8q p x = true) : c3s (a9r p x) x = a3e p x := by
 have h1 := c6e hv (b1o hf)
 unfold c3s a3e
 rw [hv, hf]
 simp only [Bool.true_and]
 exact decide_eq_decide.2 h1
theorem e9x {p : Pg} (hp : VOk p) {x : Pts} (hx : Gv.Form p x) : PtB 2000000 (a9r p x) := by
 have h := (b7c hp hx).1
 have hs := a2b hp
 refine ⟨by rw [h.sites]; omega, by rw [h.rn]; have := hp.nf; omega, by rw [h.cn]; omega, fun a ha => ?_, fun a ha s hs' => ?_, fun s hs' => ?_⟩
 . obtain ⟨i, hi, rfl⟩ := List.getElem_of_mem ha
   have hi' : i < p.funcs.length := by rw [<- h.rn]; exact hi
   have := h.fn i hi hi'
   have := (hp.regs (List.getElem_mem hi')).r64
   omega
 . obtain ⟨i, hi, rfl⟩ := List.getElem_of_mem ha
   have := b1l (h.rs i hi s hs').1 (h.rs i hi s hs').2
   omega
 . have := b1l (h.cs s hs').1 (h.cs s hs').2
   omega
theorem d6q {p : Pg} {x : Pts} (h : a2q p = false) : a3e p x = false := by simp [a3e, h]
theorem d0r {p : Pg} (hb : PgB p) {x : Pts} (hx : PtB 2000000 x) (hv : a2q p = false) : PC Try.prog Gl 14 [.agg [.list 4 (fns p.funcs), .list 2 (gbs p.globals), .list 1 (lays p.layouts), .int .i64 p.main], .agg [.list 2 (sits x.sites), .list 1 (lls x.regs), .list 1 (lays x.cells)]] (.bool (a3e p x)) := by
 have hval : PC Try.prog Gl 16 [.agg [.list 4 (fns p.funcs), .list 2 (gbs p.globals), .list 1 (lays p.layouts), .int .i64 p.main]] (.bool (a2q p)) := c21 p hb.f hb.g hb.l hb.ll hb.c
 refine a3w (res := [.tmp 4]) 5 19 [] (fun d ix => 0 :: d :: ix) (fn := Try.f14) (by kernel_rfl) (by rfl) (by rfl) (by rfl) (by simp) (by decide) ?_
 repeat' first
  | with_reducible first | refine a0p (id := 1) 14 a0k (by kernel_rfl) fun K hK => ?_ | refine stp ?_
  | (with_reducible refine stpK ?_; intro K hK)
  | (with_reducible refine stpC ?_; intro T E hT hE)
  | (with_reducible refine stp2 ?_ ?_ <;> intro h)
  | with_reducible first | refine a0q rfl ?_ | refine a1n hval (by simp [nls, nl, *, NLXB]) ?_ | refine hpc hval (by simp [nls, nl, *, NLXB]) ?_ | refine a0t rfl (Nat.le_of_ble_eq_true rfl) a0s ?_ | refine a0t rfl (Nat.le_of_ble_eq_true rfl) (a0r (by simp [HPXB, ext, upd, *])) ?_ | refine a1v (by decide) (by kernel_rfl) ?_ | refine a0x (by decide) ?_
  | (with_reducible refine Kont.go hK ?_; clear hK K)
  | ((with_reducible first | refine KT.go hT ?_ | refine KT.go hE ?_); clear hT hE T E)
  | simp [*, -List.all_flatten, -List.all_eq_true, DEFB, asR, d6q hv]
theorem d0s {p : Pg} (hb : PgB p) {x : Pts} (hx : PtB 2000000 x) (hv : a2q p = true) (hf : a8q p x = false) : PC Try.prog Gl 14 [.agg [.list 4 (fns p.funcs), .list 2 (gbs p.globals), .list 1 (lays p.layouts), .int .i64 p.main], .agg [.list 2 (sits x.sites), .list 1 (lls x.regs), .list 1 (lays x.cells)]] (.bool (a3e p x)) := by
 have hval : PC Try.prog Gl 16 [.agg [.list 4 (fns p.funcs), .list 2 (gbs p.globals), .list 1 (lays p.layouts), .int .i64 p.main]] (.bool (a2q p)) := c21 p hb.f hb.g hb.l hb.ll hb.c
 refine a3w (res := [.tmp 4]) 5 19 [] (fun d ix => 0 :: d :: ix) (fn := Try.f14) (by kernel_rfl) (by rfl) (by rfl) (by rfl) (by simp) (by decide) ?_
 repeat' first
  | with_reducible first | refine a0p (id := 1) 14 a0k (by kernel_rfl) fun K hK => ?_ | refine stp ?_
  | (with_reducible refine stpK ?_; intro K hK)
  | (with_reducible refine stpC ?_; intro T E hT hE)
  | (with_reducible refine stp2 ?_ ?_ <;> intro h)
  | with_reducible first | refine a0q rfl ?_ | refine a1n hval (by simp [nls, nl, *, NLXB]) ?_ | refine hpc hval (by simp [nls, nl, *, NLXB]) ?_ | refine a1n (c5m (vOk hv) hx) (by simp [nls, nl, *, NLXB]) ?_ | refine hpc (c5m (vOk hv) hx) (by simp [nls, nl, *, NLXB]) ?_ | refine a0t rfl (Nat.le_of_ble_eq_true rfl) a0s ?_ | refine a0t rfl (Nat.le_of_ble_eq_true rfl) (a0r (by simp [HPXB, ext, upd, *])) ?_ | refine a1v (by decide) (by kernel_rfl) ?_ | refine a0x (by decide) ?_
  | (with_reducible refine Kont.go hK ?_; clear hK K)
  | ((with_reducible first | refine KT.go hT ?_ | refine KT.go hE ?_); clear hT hE T E)
  | simp [*, -List.all_flatten, -List.all_eq_true, DEFB, asR, b5v hf]
theorem d0q {p : Pg} (hb : PgB p) {x : Pts} (hx : PtB 2000000 x) (hv : a2q p = true) (hf : a8q p x = true) : PC Try.prog Gl 14 [.agg [.list 4 (fns p.funcs), .list 2 (gbs p.globals), .list 1 (lays p.layouts), .int .i64 p.main], .agg [.list 2 (sits x.sites), .list 1 (lls x.regs), .list 1 (lays x.cells)]] (.bool (a3e p x)) := by
 have hval : PC Try.prog Gl 16 [.agg [.list 4 (fns p.funcs), .list 2 (gbs p.globals), .list 1 (lays p.layouts), .int .i64 p.main]] (.bool (a2q p)) := c21 p hb.f hb.g hb.l hb.ll hb.c
 have hss := c8u hv hf
 refine a3w (res := [.tmp 4]) 5 19 [] (fun d ix => 0 :: d :: ix) (fn := Try.f14) (by kernel_rfl) (by rfl) (by rfl) (by rfl) (by simp) (by decide) ?_
 repeat' first
  | with_reducible first | refine a0p (id := 1) 14 a0k (by kernel_rfl) fun K hK => ?_ | refine stp ?_
  | (with_reducible refine stpK ?_; intro K hK)
  | (with_reducible refine stpC ?_; intro T E hT hE)
  | (with_reducible refine stp2 ?_ ?_ <;> intro h)
  | with_reducible first | refine a0q rfl ?_ | refine a1n hval (by simp [nls, nl, *, NLXB]) ?_ | refine hpc hval (by simp [nls, nl, *, NLXB]) ?_ | refine a1n (c5m (vOk hv) hx) (by simp [nls, nl, *, NLXB]) ?_ | refine hpc (c5m (vOk hv) hx) (by simp [nls, nl, *, NLXB]) ?_ | refine a1n (d0i (vOk hv) (b1o hf) hx) (by simp [nls, nl, *, NLXB]) ?_ | refine hpc (d0i (vOk hv) (b1o hf) hx) (by simp [nls, nl, *, NLXB]) ?_ | refine a1n (c5n (y := x) (e9x (vOk hv) (b1o hf))) (by simp [nls, nl, *, NLXB]) ?_ | refine hpc (c5n (y := x) (e9x (vOk hv) (b1o hf))) (by simp [nls, nl, *, NLXB]) ?_ | refine a0t rfl (Nat.le_of_ble_eq_true rfl) a0s ?_ | refine a0t rfl (Nat.le_of_ble_eq_true rfl) (a0r (by simp [HPXB, ext, upd, *])) ?_ | refine a1v (by decide) (by kernel_rfl) ?_ | refine a0x (by decide) ?_
  | (with_reducible refine Kont.go hK ?_; clear hK K)
  | ((with_reducible first | refine KT.go hT ?_ | refine KT.go hE ?_); clear hT hE T E)
  | simp [*, -List.all_flatten, -List.all_eq_true, DEFB, asR]
theorem c5o {p : Pg} (hb : PgB p) {x : Pts} (hx : PtB 2000000 x) : PC Try.prog Gl 14 [.agg [.list 4 (fns p.funcs), .list 2 (gbs p.globals), .list 1 (lays p.layouts), .int .i64 p.main], .agg [.list 2 (sits x.sites), .list 1 (lls x.regs), .list 1 (lays x.cells)]] (.bool (a3e p x)) := by
 cases hv : a2q p with
 | false => exact d0r hb hx hv
 | true =>
   cases hf : a8q p x with
   | false => exact d0s hb hx hv hf
   | true => exact d0q hb hx hv hf
end Go.He
namespace Go.He
open Go Go.FM Go.Gv Go.Proofs
set_option maxRecDepth 100000
set_option maxHeartbeats 40000000
open Classical in
noncomputable def lfpP (p : Pg) : Pts := if h : a2q p = true /\ ∃ x, Least p x then h.2.choose else ⟨[], [], []⟩
theorem d2l {p : Pg} {x : Pts} (hv : a2q p = true) (h : Least p x) : lfpP p = x := by
 have hh : a2q p = true /\ ∃ x, Least p x := ⟨hv, x, h⟩
 unfold lfpP
 rw [dif_pos hh]
 exact hh.2.choose_spec.unique h
theorem e1h {p : Pg} (hv : a2q p = false) : lfpP p = ⟨[], [], []⟩ := by
 unfold lfpP
 rw [dif_neg fun h => by rw [hv] at h; cases h.1]
theorem e1u {p : Pg} (hp : VOk p) {x : Pts} (h : Gv.Form p x) (N : Nat) (hN : 64001 <= N) : PtB N x := by
 have hs := a2b hp
 refine ⟨by rw [h.sites]; omega, by rw [h.rn]; have := hp.nf; omega, by rw [h.cn]; omega, fun a ha => ?_, fun a ha s hs' => ?_, fun s hs' => ?_⟩
 . obtain ⟨i, hi, rfl⟩ := List.getElem_of_mem ha
   have hi' : i < p.funcs.length := by rw [<- h.rn]; exact hi
   have := h.fn i hi hi'
   have := (hp.regs (List.getElem_mem hi')).r64
   omega
 . obtain ⟨i, hi, rfl⟩ := List.getElem_of_mem ha
   have := b1l (h.rs i hi s hs').1 (h.rs i hi s hs').2
   omega
 . have := b1l (h.cs s hs').1 (h.cs s hs').2
   omega
theorem crd0 {p : Pg} (hp : VOk p) : Crd p (a4k p) := ⟨(a6a hp).shp, fun z _ e => ⟨e, fun t o ho => by
 have h := (Gv.Ld.zero hp (a4k p)).at' t
 rw [h] at ho
 cases t <;> simp [ldd] at ho⟩⟩
theorem rnd0 {p : Pg} (hp : VOk p) : Rnd p (a4k p) := ⟨a6a hp, (crd0 hp).least⟩
theorem c3n {p : Pg} (hb : PgB p) (hv : a2q p = false) : PC Try.prog Gl 15 [.agg [.list 4 (fns p.funcs), .list 2 (gbs p.globals), .list 1 (lays p.layouts), .int .i64 p.main]] (.agg [.nils, .nils, .nils]) := by
 have hval : PC Try.prog Gl 16 [.agg [.list 4 (fns p.funcs), .list 2 (gbs p.globals), .list 1 (lays p.layouts), .int .i64 p.main]] (.bool (a2q p)) := c21 p hb.f hb.g hb.l hb.ll hb.c
 refine a3w (res := [.cell 2 30]) 5 19 [] (fun d ix => 0 :: d :: ix) (fn := Try.f15) (by kernel_rfl) (by rfl) (by rfl) (by rfl) (by simp) (by decide) ?_
 repeat' first
  | with_reducible refine stp ?_
  | (with_reducible refine stpK ?_; intro K hK)
  | (with_reducible refine stpC ?_; intro T E hT hE)
  | (with_reducible refine stp2 ?_ ?_ <;> intro h)
  | with_reducible first | refine a0q rfl ?_ | refine a1n hval (by simp [nls, nl, *, NLXB]) ?_ | refine hpc hval (by simp [nls, nl, *, NLXB]) ?_ | refine a0t rfl (Nat.le_of_ble_eq_true rfl) a0s ?_ | refine a0t rfl (Nat.le_of_ble_eq_true rfl) (a0r (by simp [HPXB, ext, upd, *])) ?_ | refine a1v (by decide) (by kernel_rfl) ?_ | refine a0x (by decide) ?_
  | (with_reducible refine Kont.go hK ?_; clear hK K)
  | ((with_reducible first | refine KT.go hT ?_ | refine KT.go hE ?_); clear hT hE T E)
  | simp [*, -List.all_flatten, -List.all_eq_true, DEFB, asR, a4y]
 exact ⟨_, _, ⟨rfl, rfl⟩, .inl rfl, _, _, rfl, .inl rfl, _, rfl, .inl rfl⟩
theorem c3m {p : Pg} (hb : PgB p) (hv : a2q p = true) : PC Try.prog Gl 15 [.agg [.list 4 (fns p.funcs), .list 2 (gbs p.globals), .list 1 (lays p.layouts), .int .i64 p.main]] (.agg [.list 2 (sits (lfpP p).sites), .list 1 (lls (lfpP p).regs), .list 1 (lays (lfpP p).cells)]) := by
 have hval : PC Try.prog Gl 16 [.agg [.list 4 (fns p.funcs), .list 2 (gbs p.globals), .list 1 (lays p.layouts), .int .i64 p.main]] (.bool (a2q p)) := c21 p hb.f hb.g hb.l hb.ll hb.c
 have hp := vOk hv
 refine a3w (res := [.cell 2 30]) 5 19 [] (fun d ix => 0 :: d :: ix) (fn := Try.f15) (by kernel_rfl) (by rfl) (by rfl) (by rfl) (by simp) (by decide) ?_
 repeat' first
  | ((with_reducible refine a1o ?_); refine a2h (σ := {x : Pts // Rnd p x}) (fun y => [(4, .undef)]) [] (fun y => []) [[0, 4]] (fun y => [([0, 3], .cells 30 3 [[.list 2 (sits y.1.sites), .list 1 (lls y.1.regs), .list 1 (lays y.1.cells)]])]) (fun y => noH) (fun y => muR p y.1) ⟨a4k p, rnd0 hp⟩ (gk3 (j := 0) [] (Bs.pc _) ?_ ?_ ?_ ?_ ?_ ?_ ?_) ?_; (iterate 7 (focus (first | rfl | (simp [LPXB, *, SIMB, hdN, injB]; done)))); rintro ⟨x, hR⟩; simp only [lpS, LPXB]; (try dsimp only at hR); have hF := hR.form; have hB1 := e1u hp hF 2000000 (by decide); have hps := d0i hp hF hB1; have hsm := c5n (y := a9r p x) hB1; by_cases e : x = a9r p x; have he := b6x e; have hlf := d2l hv (hR.fin hv e); clear e; rotate_left; have he := a9c e; rotate_left)
  | ((with_reducible refine a1j ?_); refine a1w (⟨a9r p x, hR.next hp⟩) (gk3 (j := 0) [] (Bs.pc _) ?_ ?_ ?_ ?_ ?_ ?_ ?_) ?_; (iterate 7 (focus (first | rfl | (simp [LPXB, *, SIMB, hdN, injB]; done)))); (focus (dsimp only; exact hR.mu hp e)))
  | with_reducible refine stp ?_
  | (with_reducible refine stpK ?_; intro K hK)
  | (with_reducible refine stpC ?_; intro T E hT hE)
  | (with_reducible refine stp2 ?_ ?_ <;> intro h)
  | with_reducible first | refine a0q rfl ?_ | refine a1n hval (by simp [nls, nl, *, NLXB]) ?_ | refine hpc hval (by simp [nls, nl, *, NLXB]) ?_ | refine a1n (b9l hp) (by simp [nls, nl, *, NLXB]) ?_ | refine hpc (b9l hp) (by simp [nls, nl, *, NLXB]) ?_ | refine a1n hps (by simp [nls, nl, *, NLXB]) ?_ | refine hpc hps (by simp [nls, nl, *, NLXB]) ?_ | refine a1n hsm (by simp [nls, nl, *, NLXB]) ?_ | refine hpc hsm (by simp [nls, nl, *, NLXB]) ?_ | refine a0t rfl (Nat.le_of_ble_eq_true rfl) a0s ?_ | refine a0t rfl (Nat.le_of_ble_eq_true rfl) (a0r (by simp [HPXB, ext, upd, *])) ?_ | refine a1v (by decide) (by kernel_rfl) ?_ | refine a0x (by decide) ?_
  | (with_reducible refine Kont.go hK ?_; clear hK K)
  | ((with_reducible first | refine KT.go hT ?_ | refine KT.go hE ?_); clear hT hE T E)
  | simp [*, -List.all_flatten, -List.all_eq_true, DEFB, LENB, asR]
theorem b4e {p : Pg} (hb : PgB p) : PC Try.prog Gl 15 [.agg [.list 4 (fns p.funcs), .list 2 (gbs p.globals), .list 1 (lays p.layouts), .int .i64 p.main]] (.agg [.list 2 (sits (lfpP p).sites), .list 1 (lls (lfpP p).regs), .list 1 (lays (lfpP p).cells)]) := by
 cases hv : a2q p with
 | true => exact c3m hb hv
 | false =>
   rw [e1h hv]
   exact (c3n hb hv).deep ⟨_, rfl, _, _, rfl, .inr ⟨2, rfl⟩, _, _, rfl, .inr ⟨1, rfl⟩, _, _, rfl, .inr ⟨1, rfl⟩, rfl⟩
end Go.He
