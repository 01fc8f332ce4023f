/- Parts of the proof. -/
import Derived.Test.YtfhhgjbcenhdeaaGreatQ41
import Derived.Test.YtfhhgjbcenhdeaaGreatQ18
import Derived.Test.YtfhhgjbcenhdeaaGreatQ40
import Derived.Test.YtfhhgjbcenhdeaaGreatRows
set_option linter.unusedSimpArgs false
set_option linter.unusedVariables false
namespace Go.Ge
open Go Go.FM Go.Gv Go.Proofs
set_option maxRecDepth 100000
set_option maxHeartbeats 40000000
theorem BsS.of {L : List (FM.Loc × FO)} (hl : hdN 7 (L.map Prod.fst) = true) (ho : ninL (inH (HP L noH noH)) L) : BsS (updL L noH) := by
 have hout : ∀ k r, k ≠ 7 -> updL L noH (k :: r) = none := fun k r hk => by
  rw [a7s fun p hp e => ?_]
  . rfl
  . obtain ⟨q, hq⟩ := a8c hl p.1 (List.mem_map.2 ⟨p, hp, rfl⟩)
    rw [e] at hq
    simp only [List.cons.injEq] at hq
    exact hk hq.1
 refine ⟨fun k r hk => hout k r (by omega), fun k r h1 h2 => hout k r (by omega), fun l o h => ?_⟩
 rcases b1e h with h | ⟨_, h⟩
 . exact a5x (fun q hq => hq) (b6d ho _ h)
 . cases h
theorem f6x {L : List (FM.Loc × FO)} {B : Heap} {p : Pg} {y : Pts} {b : Bool} : HP (([88], .cells 4 1 [[.bool b]]) :: L) B (MN p y) = HP L B (MF p y b) := by
 rw [d6w (show MN p y [88] = none from rfl)]
 congr 1
 funext k
 unfold upd
 by_cases e : k = [88]
 . subst e; rfl
 . rw [if_neg e, b5c e]
   unfold MF
   split <;> first | rfl | exact absurd rfl e
structure PgB (p : Pg) : Prop where
 f : p.funcs.length <= 2000000
 g : p.globals.length <= 2000000
 l : p.layouts.length <= 2000000
 ll : ∀ x ∈ p.layouts, x.length <= 2000000
 c : ∀ x ∈ p.funcs, x.code.length <= 2000000
theorem f1c {p : Pg} (hp : VOk p) {L : List (FM.Loc × FO)} {B : Heap} {Y : Pts} (t : SL) {l : List Int} (hy : Shp p Y) (hB : BsN p 7 B) (ht : t.ok Y) (h0 : getS Y t = []) (hl : l.length <= 1000000000) (hL : hdN 7 (L.map Prod.fst) = true) (hn : ninL (inH (HP L B (MN p Y))) L) :
 FCr Tryz.prog Gl 36 [.ptr [81] 8 0 0, .mp t.loc, .list 1 (ints l)] (HP [] (updL L B) (MN p Y)) (OutL p (updL L B) Y t l) := e9x hp hy (hB.call 2 (by decide) hy hL hn) ht h0 hl
theorem f6c {p : Pg} (hp : VOk p) {m : Bool} {fk : FuncId} (hCT : CT p m fk) (hfk : fnOk Tryz.prog fk = true) {L : List (FM.Loc × FO)} {B : Heap} {Y : Pts} {g : Bool} (hy : Shp p Y) (hB : BsM p 7 B) (hL : hdN 7 (L.map Prod.fst) = true) (hn : ninL (inH (HP L B (MF p Y g))) L) :
 FCr Tryz.prog Gl 27 [.ptr [81] 8 0 0, .clo fk [] [.ptr [88] 1 0 0]] (HP [] (updL L B) (MF p Y g)) (OutT p m (updL L B) (a5p p) Y g) := b5g hp hCT hfk hy (hB.call 4 (by decide) hy hL hn)
open Classical in
noncomputable def a2y (p : Pg) (x : Pts) : Bool := a2v p && (a8x p x && decide (a5p p x))
theorem d7s {p : Pg} (hb : PgB p) (x : Pts) (hv : a2v p = false) : PC Tryz.prog Gl 14 [.agg [.list 4 (fns p.funcs), .list 2 (gbs p.globals), .list 1 (lays p.layouts), .int .i64 p.main], .agg [.list 2 (sits x.sites), .list 1 (lls x.regs), .list 1 (lays x.cells)]] (.bool (a2y p x)) := by
 have hsv := fun (hp : VOk p) => a2f hp
 have hval : PC Tryz.prog Gl 23 [.agg [.list 4 (fns p.funcs), .list 2 (gbs p.globals), .list 1 (lays p.layouts), .int .i64 p.main]] (.bool (a2v p)) := by rw [<- b0i]; exact c19 p hb.f hb.g hb.l hb.ll hb.c
 refine a3d (res := [.tmp 4]) 13 114 [51, 50, 49, 69, 68, 67, 93, 92, 91] (fun d ix => 7 :: d :: ix) (fn := Tryz.f14) (by kernel_rfl) (by rfl) (by rfl) (by rfl) (by simp) (by decide) ?_
 repeat' first
  | with_reducible first | refine a0u (id := 4) 30 a0m (by kernel_rfl) fun K hK => ?_ | refine stp ?_
  | (with_reducible refine stpK ?_; intro K hK)
  | (with_reducible refine stpC ?_; intro T E hT hE)
  | (with_reducible refine stp2 ?_ ?_ <;> intro h)
  | with_reducible first | refine a0p rfl ?_ | refine a1h hval (by simp [nls, nl, *, NLXB]) ?_ | refine hpc hval (by simp [nls, nl, *, NLXB]) ?_ | refine a1r rfl (Nat.le_of_ble_eq_true rfl) a0r ?_ | refine a1r rfl (Nat.le_of_ble_eq_true rfl) (a0q (by simp [HPXB, a4p, a2b, ext, upd, *])) ?_ | refine a1s (by decide) (by kernel_rfl) ?_ | refine a0x (by decide) ?_
  | (with_reducible refine Kont.go hK ?_; clear hK K)
  | ((with_reducible first | refine KT.go hT ?_ | refine KT.go hE ?_); clear hT hE T E)
  | simp [*, -List.all_flatten, -List.all_eq_true, DEFM, a2d, a1q, a2b, hdN, a1c, a0v, a1y, a4p, a3l, a2w, a8f, a0d, a3a, a4w, a2j, a1w, a5l, a1z, a0a, a1g, a0b, a0e, a6x, a8o, a8n, a8m, a1j, a0y, a0z, a2k, a2l, a2m, anR, a3i, MG_t, MG_f, a6b, a2y]
theorem _root_.Go.Gv.Ld.zero {p : Pg} (hp : VOk p) (x : Pts) : Gv.Ld p x 0 0 0 (a4h p) := by
 refine ⟨(a5a hp).shp, fun t => ?_⟩
 have e : Gv.ldd 0 0 0 t = false := by cases t <;> simp [Gv.ldd]
 rw [e, if_neg (by simp)]
 cases t with
 | r g a =>
   simp only [Gv.getS, Gv.rg, a4h, List.getD_eq_getElem?_getD, List.getElem?_map, Int.toNat_natCast]
   cases p.funcs[g]? with
   | none => simp
   | some f => by_cases h : a < f.regs.toNat <;> simp [List.getElem?_replicate, h]
 | c o =>
   simp only [Gv.getS, Gv.cl, a4h, List.getD_eq_getElem?_getD, List.getElem?_replicate, Int.toNat_natCast]
   split <;> rfl
theorem e3u (p : Pg) (y : Pts) : MN p y [88] = none := rfl
theorem e2c {p : Pg} {l : List Int} (h : setB l ((a0i p).length : Int) = true) : okA (a0i p).length l := (b2c.1 h).a
theorem f1f {p : Pg} {x Y : Pts} {f r : Nat} (hf : f < x.regs.length) (hr : r < x.regs[f].length) (h : Gv.Ld p x f r 0 Y) (ht : (SL.r f r).ok Y) (hs : setB x.regs[f][r] ((a0i p).length : Int) = true) : Gv.Ld p x f (r + 1) 0 (setS Y (.r f r) x.regs[f][r]) := by
 have e : getS x (.r f r) = x.regs[f][r] := c4i hf hr
 have := h.setR ht (by rw [e]; exact e2c hs)
 rwa [e] at this
theorem e6e {p : Pg} {x Y : Pts} {f o : Nat} (ho : o < x.cells.length) (h : Gv.Ld p x f 0 o Y) (ht : (SL.c o).ok Y) (hs : setB x.cells[o] ((a0i p).length : Int) = true) : Gv.Ld p x f 0 (o + 1) (setS Y (.c o) x.cells[o]) := by
 have e : getS x (.c o) = x.cells[o] := d0h ho
 have := h.setC ht (by rw [e]; exact e2c hs)
 rwa [e] at this
theorem e6d {p : Pg} {x Y : Pts} {f : Nat} (hf : f < x.regs.length) (h : Gv.Ld p x f x.regs[f].length 0 Y) : Gv.Ld p x (f + 1) 0 0 Y := by
 refine h.next ?_
 rw [List.getD_eq_getElem?_getD, List.getElem?_eq_getElem hf]
 exact Nat.le_refl _
theorem g2b {p : Pg} {x Y : Pts} {f r : Nat} (h : Gv.Ld p x f r 0 Y) : getS Y (.r f r) = [] := by
 rw [h.at' (.r f r), if_neg (by simp [ldd])]
theorem g2c {p : Pg} {x Y : Pts} {f o : Nat} (h : Gv.Ld p x f 0 o Y) : getS Y (.c o) = [] := by
 rw [h.at' (.c o), if_neg (by simp [ldd])]
theorem d1s {Y : Pts} {f r : Nat} (hf : f < Y.regs.length) (hr : r < Y.regs[f].length) : (SL.r f r).ok Y := ⟨hf, by rw [List.getD_eq_getElem?_getD, List.getElem?_eq_getElem hf]; exact hr⟩
section
variable {P : Program} {c : Cfg} {ops : Array Oper} {Φ : Fs -> Prop} {s : Fs}
theorem e4f {d : Option Tmp} {u : UnOp} {t : TypeId} {x : Operand} {ty : TypeId} {po : String} {af : Array Edge} {g : Option (Nat × Bool)} (h : wOps P c ops [{ dst := d, op := .unOp u t x, type := ty, pos := po, after := af, guard := g }] Φ s) : WL P c ops [{ dst := d, op := .unOp u t x, type := ty, pos := po, after := af, guard := g }] Φ s := b2u h
end
open Classical in
theorem e4z {p : Pg} {x Z Y : Pts} {g : Bool} (hv : a2v p = true) (hf : a8x p x = true) (hz : Z = x) (hT : TR true (a5p p) (a5p p) Z true Y g) : g = a2y p x := by
 subst hz
 unfold a2y
 rw [hv, hf, Bool.true_and, Bool.true_and]
 by_cases hc : a5p p Z
 . rw [decide_eq_true hc]; exact (hT.snd rfl).2 rfl hc
 . rw [decide_eq_false hc]
   cases hg : g with
   | false => rfl
   | true => exact absurd (hT.good hg).2.2 hc
theorem b5y {p : Pg} {x : Pts} (h : a8x p x = false) : a2y p x = false := by simp [a2y, h]
open Classical in
theorem b1z {p : Pg} {x : Pts} (h : a8x p x = true) : Gv.Form p x := by
 unfold a8x at h; exact of_decide_eq_true h
theorem TR.skip {m : Bool} {C C' : Pts -> Prop} {Y Z : Pts} {g h : Bool} (H : TR m C C Y g Z h) (hs : ∀ z, C' z -> C z) (hn : Z = Y -> C Y -> C' Y) : TR m C' C' Y g Z h :=
 ⟨H.pre, fun z hz hy => H.least z (hs z hz) hy, fun e => by obtain ⟨h1, h2, h3⟩ := H.good e; exact ⟨h1, h2, hn h2 h3⟩, fun e => ⟨(H.snd e).1, fun hg hc => (H.snd e).2 hg (hs _ hc)⟩, H.prog⟩
theorem g2j (t : SL) (ss : List Int) (z : Pts) : inS t (ss.take 0) z := fun o ho => by simp at ho
theorem e6i {t : SL} {ss : List Int} {i : Nat} (h : i < ss.length) (z : Pts) : inS t (ss.take (i + 1)) z ↔ inS t (ss.take i) z /\ inS t [ss[i]] z := by
 rw [List.take_add_one, List.getElem?_eq_getElem h]
 constructor
 . intro H; exact ⟨fun o ho => H o (List.mem_append_left _ ho), fun o ho => H o (List.mem_append_right _ (by simpa using ho))⟩
 . rintro ⟨h1, h2⟩ o ho
   rcases List.mem_append.1 ho with e | e
   . exact h1 o e
   . exact h2 o (by simpa using e)
theorem g2i {t : SL} {ss ks : List Int} (hp : ss.Perm ks) (z : Pts) : inS t ks z ↔ inS t (ss.take ss.length) z := by
 rw [List.take_length]
 exact ⟨fun h o ho => h o (hp.mem_iff.1 ho), fun h o ho => h o (hp.mem_iff.2 ho)⟩
theorem g0z {t : SL} {ss : List Int} {i : Nat} {Y Z : Pts} {g h : Bool} (hi : i < ss.length) (H : TR false (inS t (ss.take i)) (inS t (ss.take i)) Y g Z h) (hin : ss[i] ∈ getS Z t) : TR false (inS t (ss.take (i + 1))) (inS t (ss.take (i + 1))) Y g Z h :=
 TR.skip H (fun z hz => ((e6i hi z).1 hz).1) fun e hc => (e6i hi _).2 ⟨hc, fun o ho => by rw [List.mem_singleton] at ho; subst ho; rw [<- e]; exact hin⟩
theorem e9u {t : SL} {ss : List Int} {i : Nat} {Y Z : Pts} {g h : Bool} (hi : i < ss.length) (ht : t.ok Z) (H : TR false (inS t (ss.take i)) (inS t (ss.take i)) Y g Z h) : TR false (inS t (ss.take (i + 1))) (inS t (ss.take (i + 1))) Y g (setS Z t (getS Z t ++ [ss[i]])) true :=
 (H.comp (TR.lay (b := h) ht ss[i])).mono (fun hc => hc.2.elim) fun z _ hz => (e6i hi z).1 hz
theorem e5q {n : Nat} {l ks ss : List Int} {i : Nat} (hi : i < ss.length) (hp : ss.Perm ks) (hk : okA n ks) (hl : okA n l) (hn : ss[i] ∉ l) : okA n (l ++ [ss[i]]) := by
 refine ⟨List.nodup_append.2 ⟨hl.1, by simp, fun a ha b hb e => ?_⟩, fun x hx => ?_⟩
 . rw [List.mem_singleton] at hb; subst hb; subst e; exact hn ha
 . rcases List.mem_append.1 hx with h | h
   . exact hl.2 x h
   . rw [List.mem_singleton] at h; subst h; exact hk.2 _ (hp.mem_iff.1 (List.getElem_mem hi))
theorem e6j {B : Heap} {p : Pg} {y : Pts} {b : Bool} (h : B [88] = none) : HSub (HP [] B (MN p y)) (HP [] B (MF p y b)) := fun l o ho => by
 by_cases e : l = [88]
 . subst e
   have : HP [] B (MN p y) [88] = B [88] := rfl
   rw [this, h] at ho; cases ho
 . have e1 : MN p y l = MF p y b l := by
    rw [b5c e]
    unfold MF
    split <;> first | rfl | exact absurd rfl e
   unfold HP at ho ⊢
   rw [a3y] at ho ⊢
   rw [<- e1]; exact ho
def OutA (p : Pg) (B : Heap) (Y : Pts) (r : FV) (H' : Heap) : Prop := ∃ Y' b, r = .bool b /\ H' = HP [] B (MN p Y') /\ Shp p Y' /\ TR false (a5p p) (a5p p) Y false Y' b
def OutU (p : Pg) (B : Heap) (r : FV) (H' : Heap) : Prop := r = .tup [] /\ ∃ Y', H' = HP [] B (MN p Y') /\ Shp p Y' /\ Least p (a9e Y')
section
variable {P : Program} {c : Cfg} {ops : Array Oper} {o o2 o3 : Oper} {post : List Oper} {Φ : Fs -> Prop} {s : Fs}
theorem e9n (h : MG P c ops o (o2 :: o3 :: post) Φ s (a2z ops o s)) : WL P c ops (o :: o2 :: o3 :: post) Φ s := a6y h
end
theorem c6b {H : Heap} {l nm : FM.Loc} (h0 : H nm = none) : FC Tryz.prog Gl 30 [.mp l] H (.clo 53 [] [.ptr nm 1 0 0]) (upd H nm (.cells 54 1 [[.mp l]])) := by
 have e0 : (fun d ix => if d = 1 then nm else 0 :: d :: ix : Nat -> List Nat -> FM.Loc) 1 [] = nm := rfl
 refine c8y (res := [.tmp 2]) 3 4 [] (fun d ix => if d = 1 then nm else 0 :: d :: ix) (fn := Tryz.f30) (by kernel_rfl) (by rfl) (by rfl) (by rfl) (by simp) (by decide) ?_
 repeat' first
  | with_reducible refine stp ?_
  | (with_reducible refine stpK ?_; intro K hK)
  | (with_reducible refine stpC ?_; intro T E hT hE)
  | (with_reducible refine stp2 ?_ ?_ <;> intro h)
  | with_reducible first | refine a0p rfl ?_ | refine a1r rfl (Nat.le_of_ble_eq_true rfl) a0r ?_ | refine a1r rfl (Nat.le_of_ble_eq_true rfl) (a0q (by simp [HPXB, ext, upd, *])) ?_ | refine a1s (by decide) (by kernel_rfl) ?_ | refine a0x (by decide) ?_
  | (with_reducible refine Kont.go hK ?_; clear hK K)
  | ((with_reducible first | refine KT.go hT ?_ | refine KT.go hE ?_); clear hT hE T E)
  | simp [*, -List.all_flatten, -List.all_eq_true, DEFB, KFin]
 all_goals (funext k; simp only [upd]; split <;> rfl)
theorem g1d {p : Pg} (hp : VOk p) {B : Heap} {Y : Pts} {g : Bool} {t : SL} {lf : FM.Loc} {ks : List Int} (hy : Shp p Y) (ht : t.ok Y) (hB : BsM p 1 B) (hks : okA (a0i p).length ks) (hl : HP [] B (MF p Y g) lf = some (mapO ks)) : FCr Tryz.prog Gl 28 [.mp t.loc, .mp lf, .ptr [88] 1 0 0] (HP [] B (MF p Y g)) (OutT p false B (inS t ks) Y g) := by
 have hsv := a2f hp
 have fB : ∀ r, B (1 :: r) = none := fun r => (hB Y g Y g hy hy).fb 1 r (by decide)
 have hkl : ks.length <= 1000000000 := by have := b1m hks; omega
 have hkb : ∀ x ∈ ks, 0 <= x /\ x < 1000000000 := fun x hx => by have := hks.2 x hx; omega
 have hlf : ∀ (L : List (FM.Loc × FO)) (b' : Bool), hdN 1 (L.map Prod.fst) = true -> HP L B (MF p Y b') lf = some (mapO ks) := fun L b' hL => e3x hB (by decide) hy hl hL
 have hput : ∀ (Z : Pts) (h : Bool) (o : Int), t.ok Z -> o ∉ getS Z t -> b0g Tryz.prog (HP [] B (MF p Z h)) 54 (.mp t.loc) (.int .i64 o) (.agg []) = some ([(t.loc, mapO (getS Z t ++ [o]))], .undef) := fun Z h o hZ ho => c4l (a6u hZ) ho
 have hi1 : ∀ (L : List (FM.Loc × FO)) (Z : Pts) (b' : Bool), t.ok Z -> inH (HP L B (MF p Z b')) t.loc := fun L Z b' hZ => c2z hZ
 have hi2 : ∀ (L : List (FM.Loc × FO)) (Z : Pts) (b' : Bool), inH (HP L B (MF p Z b')) [88] := fun L Z b' => a8b
 refine a3z (res := []) 7 23 [11, 10, 9] (fun d ix => 1 :: d :: ix) (fn := Tryz.f28) (by kernel_rfl) (by rfl) (by rfl) (by rfl) (by simp) (by decide) ?_
 repeat' first
  | ((with_reducible refine a2c (id := 0) fun K hK => ?_); refine a1o 2 ?_)
  | ((with_reducible refine a1u ?_); refine a2n (σ := {x : Nat × (Pts × Bool) // x.1 <= ss.length /\ Shp p x.2.1 /\ TR false (inS t (ss.take x.1)) (inS t (ss.take x.1)) Y g x.2.1 x.2.2}) (fun y => [(1, .undef), (6, .undef)]) [10, 9] (fun y => [(11, .int .i64 (y.1.1 : Int))]) [[1, 95]] (fun y => []) (fun y => MF p y.1.2.1 y.1.2.2) (fun y => ss.length - y.1.1) ⟨(0, (Y, g)), Nat.zero_le _, hy, TR.id (g2j _ _ _)⟩ (gk3i (j := 1) [] (hB _ _ _ _ hy hy) ?_ ?_ ?_ ?_ ?_ ?_ ?_) ?_; (iterate 7 (focus (first | rfl | (simp [LPXB, *, SIMB, hdN, injB, fB, a2d, a1q, a2b, hdN, a1c, a0v, a1y, a0e, a5m, a2p]; done)))); rintro ⟨⟨i, ⟨Z, h⟩⟩, hi, hZ, hT⟩; simp only [lpS, LPXB]; (try dsimp only at hi hZ hT); have htZ := hT.pre.ok ht; rcases a1t hi with hlt | ⟨hlt, he⟩; rotate_left; subst i; rotate_left; have wi := wli hlt (by omega); by_cases hin : (ss[i]'hlt) ∈ getS Z t; rotate_left; have hZ2 := hZ.set htZ (e5q hlt hpm hks (hZ.gets t) hin); have htZ2 := c6k (t := t) (getS Z t ++ [ss[i]'hlt]) htZ; rotate_right)
  | ((with_reducible refine a1p ?_); refine a2a (⟨(i + 1, (Z, h)), by omega, hZ, g0z hlt hT hin⟩) (gk3i (j := 1) [] (hB _ _ _ _ hy hZ) ?_ ?_ ?_ ?_ ?_ ?_ ?_) ?_; (iterate 7 (focus (first | rfl | (simp [LPXB, *, SIMB, hdN, injB, fB, a2d, a1q, a2b, hdN, a1c, a0v, a1y, a0e, a5m, a2p]; done)))); (focus (dsimp only; omega)))
  | ((with_reducible refine a1p ?_); refine a2a (⟨(i + 1, (setS Z t (getS Z t ++ [ss[i]'hlt]), true)), by omega, hZ2, e9u hlt htZ hT⟩) (gk3i (j := 1) [] (hB _ _ _ _ hy hZ2) ?_ ?_ ?_ ?_ ?_ ?_ ?_) ?_; (iterate 7 (focus (first | rfl | (simp [LPXB, *, SIMB, hdN, injB, fB, a2d, a1q, a2b, hdN, a1c, a0v, a1y, a0e, a5m, a2p]; done)))); (focus (dsimp only; omega)))
  | ((with_reducible refine cgH ?_); refine b8f (c6b (nm := [1, 95]) ?_) ?_; (focus (simp [a2d, a2b, a2r, fB]; done)))
  | ((with_reducible refine mdH ?_); refine d3c (by kernel_rfl) (fun d hd => ?_) (d1k (l := [1, 95]) (k := lf) (ks := ks) (T := 54) ?_ ?_ hks.1 hkb hkl) ?_; (focus (cases hd; exact Nat.le_of_ble_eq_true rfl)); (focus (simp [a2d, a2b, a2o]; done)); (focus (exact hlf _ _ (by rfl))); (rintro r' H' ⟨rfl, ss, hpm, rfl⟩); have hsl : ss.length <= 1000000000 := (by rw [hpm.length_eq]; exact hkl))
  | ((with_reducible refine cgH ?_); refine a4t rfl (c5y _ hB (by decide) hZ htZ ?_ ?_) ?_; (focus rfl); (focus (first | rfl | (simp [ninL, ninO, a3p, nins, nin, a0f, a0h, a0a, a1g, a0b, a0c, a1z, mapO, a2h, a1c, a0v, hdN, *]; done))))
  | ((with_reducible refine lfH ?_); refine a6w (j := 1) (hB _ _ _ _ hy hZ) rfl ⟨rfl, Z, h, rfl, hZ, hT.congr (g2i hpm)⟩ trivial)
  | (with_reducible refine e9n ?_)
  | (with_reducible refine b2u ?_)
  | with_reducible refine stp ?_
  | (with_reducible refine stpK ?_; intro K hK)
  | (with_reducible refine stpC ?_; intro T E hT hE)
  | (with_reducible refine stp2 ?_ ?_ <;> intro h)
  | with_reducible first | refine a0p rfl ?_ | refine a1r rfl (Nat.le_of_ble_eq_true rfl) a0r ?_ | refine a1r rfl (Nat.le_of_ble_eq_true rfl) (a0q (by simp [HPXB, a2b, fB, ext, upd, *])) ?_ | refine a1s (by decide) (by kernel_rfl) ?_ | refine a0x (by decide) ?_
  | (with_reducible refine Kont.go hK ?_; clear hK K)
  | ((with_reducible first | refine KT.go hT ?_ | refine KT.go hE ?_); clear hT hE T E)
  | simp [*, -List.all_flatten, -List.all_eq_true, DEFM, fB, a2d, a1q, a2b, hdN, a1c, a0v, a1y, a0e, a5m, a2p, d0l, e3w, d6x, hput, a3i, MG_t, MG_f]
theorem f6a {p : Pg} (hp : VOk p) : CT p false 28 := fun B y b t lf ks hy ht hB hk hl => g1d hp hy ht hB hk hl
theorem g1h {p : Pg} (hp : VOk p) {B : Heap} {Y : Pts} (hy : Shp p Y) (hBM : BsM p 5 B) (hBN : BsN p 5 B) (h88 : B [88] = none) : FCr Tryz.prog Gl 26 [.ptr [81] 8 0 0] (HP [] B (MN p Y)) (OutA p B Y) := by
 have hsv := a2f hp
 have fB : ∀ r, B (5 :: r) = none := fun r => (hBN _ _ hy hy).fb 5 r (by decide)
 have h81 : ∀ (L : List (FM.Loc × FO)) (Z : Pts) (b' : Bool), inH (HP L B (MF p Z b')) [81] := fun L Z b' => a3o a3w
 have h81n : ∀ (L : List (FM.Loc × FO)) (Z : Pts), inH (HP L B (MN p Z)) [81] := fun L Z => a3o a6x
 have h88i : ∀ (L : List (FM.Loc × FO)) (Z : Pts) (b' : Bool), inH (HP L B (MF p Z b')) [88] := fun L Z b' => a8b
 refine a3z (res := [.tmp 2]) 4 8 [] (fun d ix => 5 :: d :: ix) (fn := Tryz.f26) (by kernel_rfl) (by rfl) (by rfl) (by rfl) (by simp) (by decide) ?_
 repeat' first
  | ((with_reducible refine a2c (id := 2) fun K hK => ?_); refine e4e (gk5i (vs1 := [.ptr [81] 8 0 0, .undef, .bool false, .ptr [88] 1 0 0]) (tm1 := []) (ix1 := []) (L1 := [([88], .cells 4 1 [[.bool false]])]) [([88], some [5, 3])] f6x (by rfl) ?_ ?_ (hBN _ _ hy hy).clo (hBN _ _ hy hy).lent ?_ ?_ ?_) ?_; (focus (intro n hn; simp at hn; (try dsimp only); rcases hn with rfl | rfl <;> simp [a3k, a4p, e3u, fB, h88])); (focus (intro q hq; simp at hq; rcases hq with rfl; simp [a3k, a4p, fB])); (focus (simp [*, SIMB, fB, a2d, a1q, a2b, hdN, a1c, a0v, a1y, a4p, a3l, a1y, h81, h88i]; done)); (focus (first | trivial | (simp [simT]; done))); (focus (simp [*, SIMB, fB, a2d, a1q, a2b, hdN, a1c, a0v, a1y, a4p, a3l, a1y, h81, h88i]; done)); refine a1o 2 ?_)
  | ((with_reducible refine mdH ?_); refine a3j (L := []) (by kernel_rfl) (fun d hd => ?_) rfl (b5g hp (f6a hp) (by kernel_rfl) hy (hBM.call (b := false) 4 (by decide) hy (by rfl) trivial)) ?_; (focus (cases hd; exact Nat.le_of_ble_eq_true rfl)); (rintro r' H' ⟨rfl, Z2, g2, rfl, hZ2, hT⟩))
  | ((with_reducible refine lfH ?_); exact ⟨HP [] B (MN p Z2), ⟨Z2, g2, rfl, rfl, hZ2, hT⟩, e6j h88, (hBN _ _ hy hZ2).lent, trivial, (hBN _ _ hy hZ2).clo⟩)
  | (with_reducible refine a5f ?_)
  | (with_reducible refine a6y ?_)
  | with_reducible refine stp ?_
  | (with_reducible refine stpK ?_; intro K hK)
  | (with_reducible refine stpC ?_; intro T E hT hE)
  | (with_reducible refine stp2 ?_ ?_ <;> intro h)
  | with_reducible first | refine a0p rfl ?_ | refine a1r rfl (Nat.le_of_ble_eq_true rfl) a0r ?_ | refine a1r rfl (Nat.le_of_ble_eq_true rfl) (a0q (by simp [HPXB, a4p, a2b, fB, ext, upd, *])) ?_ | refine a1s (by decide) (by kernel_rfl) ?_ | refine a0x (by decide) ?_
  | (with_reducible refine Kont.go hK ?_; clear hK K)
  | ((with_reducible first | refine KT.go hT ?_ | refine KT.go hE ?_); clear hT hE T E)
  | simp [*, -List.all_flatten, -List.all_eq_true, DEFM, fB, a2d, a1q, a2b, hdN, a1c, a0v, a1y, a4p, a3l, a1y, h81, h88i, d0l, a3i, MG_t, MG_f]
theorem an1M {p : Pg} (hp : VOk p) {L : List (FM.Loc × FO)} {B : Heap} {Y : Pts} {j : Nat} (hj : 5 < j) (hy : Shp p Y) (hBM : BsM p j B) (hBN : BsN p j B) (h88 : B [88] = none) (h88L : ∀ q ∈ L, q.1 ≠ [88]) (hL : hdN j (L.map Prod.fst) = true) (hn : ninL (inH (HP L B (MN p Y))) L) (hn' : ninL (inH (HP L B (MF p Y false))) L) :
 FCr Tryz.prog Gl 26 [.ptr [81] 8 0 0] (HP [] (updL L B) (MN p Y)) (OutA p (updL L B) Y) := g1h hp hy (hBM.call 5 hj hy hL hn') (hBN.call 5 hj hy hL hn) (by rw [a7s h88L]; exact h88)
theorem e4q {p : Pg} (hp : VOk p) {B : Heap} {Y : Pts} (hc : Crd p Y) (hBM : BsM p 6 B) (hBN : BsN p 6 B) (h88 : B [88] = none) : FCr Tryz.prog Gl 25 [.ptr [81] 8 0 0, .clo 26 [] []] (HP [] B (MN p Y)) (OutU p B) := by
 have hy := hc.shp
 have fB : ∀ r, B (6 :: r) = none := fun r => (hBN _ _ hy hy).fb 6 r (by decide)
 have h81 : ∀ (L : List (FM.Loc × FO)) (Z : Pts), inH (HP L B (MN p Z)) [81] := fun L Z => a3o a6x
 refine a3z (res := []) 4 7 [] (fun d ix => 6 :: d :: ix) (fn := Tryz.f25) (by kernel_rfl) (by rfl) (by rfl) (by rfl) (by simp) (by decide) ?_
 repeat' first
  | ((with_reducible refine a2c (id := 0) fun K hK => ?_); refine a1o 2 ?_)
  | ((with_reducible refine a1u ?_); refine a2n (σ := {x : Pts // Crd p x}) (fun y => []) [] (fun y => []) [] (fun y => []) (fun y => MN p y.1) (fun y => muR p y.1) ⟨Y, hc⟩ (gk3i (j := 6) [] (hBN _ _ hy hy) ?_ ?_ ?_ ?_ ?_ ?_ ?_) ?_; (iterate 7 (focus (first | rfl | (simp [LPXB, *, SIMB, hdN, injB, fB, a2d, a1q, a2b, hdN, a1c, a0v, a1y, a4p, a3l, a1y, h81]; done)))); rintro ⟨Z, hZc⟩; simp only [lpS, LPXB]; (try dsimp only at hZc); have hZ := hZc.shp)
  | ((with_reducible refine mdH ?_); refine a3j (L := []) (by kernel_rfl) (fun d hd => ?_) rfl (an1M hp (by decide) hZ hBM hBN h88 (fun _ h => by cases h) (by rfl) trivial trivial) ?_; (focus (cases hd; exact Nat.le_of_ble_eq_true rfl)); (rintro r' H' ⟨Z2, g2, rfl, rfl, hZ2, hT⟩); cases g2)
  | ((with_reducible refine a1p ?_); refine a2a (⟨Z2, hZc.step hZ2 hT⟩) (gk3i (j := 6) [] (hBN _ _ hy hZ2) ?_ ?_ ?_ ?_ ?_ ?_ ?_) ?_; (iterate 7 (focus (first | rfl | (simp [LPXB, *, SIMB, hdN, injB, fB, a2d, a1q, a2b, hdN, a1c, a0v, a1y, a4p, a3l, a1y, h81]; done)))); (focus (dsimp only; exact Crd.mu hp hZ2 hT)))
  | ((with_reducible refine lfH ?_); refine a6w (j := 6) (hBN _ _ hy hZ2) rfl ⟨rfl, Z2, rfl, hZ2, ?_⟩ trivial; obtain ⟨he, hl⟩ := hZc.fin hp hT; rw [he]; exact hl)
  | (with_reducible refine a5f ?_)
  | (with_reducible refine a6y ?_)
  | with_reducible refine stp ?_
  | (with_reducible refine stpK ?_; intro K hK)
  | (with_reducible refine stpC ?_; intro T E hT hE)
  | (with_reducible refine stp2 ?_ ?_ <;> intro h)
  | with_reducible first | refine a0p rfl ?_ | refine a1r rfl (Nat.le_of_ble_eq_true rfl) a0r ?_ | refine a1r rfl (Nat.le_of_ble_eq_true rfl) (a0q (by simp [HPXB, a4p, fB, ext, upd, *])) ?_ | refine a1s (by decide) (by kernel_rfl) ?_ | refine a0x (by decide) ?_
  | (with_reducible refine Kont.go hK ?_; clear hK K)
  | ((with_reducible first | refine KT.go hT ?_ | refine KT.go hE ?_); clear hT hE T E)
  | simp [*, -List.all_flatten, -List.all_eq_true, DEFM, fB, a2d, a1q, a2b, hdN, a1c, a0v, a1y, a4p, a3l, a1y, h81, a3i, MG_t, MG_f]
theorem d7r {p : Pg} (hb : PgB p) {x : Pts} (hx : PtB 2000000 x) (hv : a2v p = true) (d1 : x.sites = a0i p) (d2 : x.regs.length = p.funcs.length) (d3 : x.cells.length = (a0i p).length) : PC Tryz.prog Gl 14 [.agg [.list 4 (fns p.funcs), .list 2 (gbs p.globals), .list 1 (lays p.layouts), .int .i64 p.main], .agg [.list 2 (sits x.sites), .list 1 (lls x.regs), .list 1 (lays x.cells)]] (.bool (a2y p x)) := by
 have hsv := fun (hp : VOk p) => a2f hp
 have hval : PC Tryz.prog Gl 23 [.agg [.list 4 (fns p.funcs), .list 2 (gbs p.globals), .list 1 (lays p.layouts), .int .i64 p.main]] (.bool (a2v p)) := by rw [<- b0i]; exact c19 p hb.f hb.g hb.l hb.ll hb.c
 have hp := vOk hv
 have hs := a2f hp
 have hE := (a5a hp).shp
 have hEc := hE.cn
 have hEr := hE.rn
 have heq := b5x (a := x.sites) (b := a0i p) hx.s
 have hnf := hp.nf
 have hY := hE
 have h81 : ∀ (L : List (FM.Loc × FO)) (Y : Pts), inH (HP L noH (MN p Y)) [81] := fun L Y => a3o a6x
 rw [d1, show decide (a0i p = a0i p) = true from by simp] at heq
 have d2' : ((x.regs.length : Int) = (p.funcs.length : Int)) = (x.regs.length = p.funcs.length) := propext (by omega)
 have d3' : ((x.cells.length : Int) = ((a0i p).length : Int)) = (x.cells.length = (a0i p).length) := propext (by omega)
 refine a3d (res := [.tmp 4]) 13 114 [51, 50, 49, 69, 68, 67, 93, 92, 91] (fun d ix => 7 :: d :: ix) (fn := Tryz.f14) (by kernel_rfl) (by rfl) (by rfl) (by rfl) (by simp) (by decide) ?_
 repeat' first
  | ((with_reducible refine cgH ?_); refine a4t rfl (b6q hp (BsS.of (by rfl) ?_)) ?_; (focus (first | rfl | (simp [ninL, ninO, a3p, nins, nin, a0f, a0h, a0a, a1g, a0b, a0c, a1z, mapO, a2h, a1y, a1c, a0v, hdN, *]; done))))
  | ((with_reducible refine a1u ?_); refine a2n (σ := {y : Nat × Pts // y.1 <= p.funcs.length /\ Gv.Ld p x y.1 0 0 y.2 /\ fm2 p x y.1}) (fun y => [(6, .undef), (7, .undef), (8, .undef), (9, .undef)]) [50, 49] (fun y => [(51, .int .i64 (y.1.1 : Int))]) [] (fun y => []) (fun y => MN p y.1.2) (fun y => p.funcs.length - y.1.1) ⟨(0, a4h p), by simp, Gv.Ld.zero hp x, f1x p x⟩ (gk3i (j := 7) [] (bsMN hY 7 (by decide)) ?_ ?_ ?_ ?_ ?_ ?_ ?_) ?_; (iterate 7 (focus (first | rfl | (simp [LPXB, *, SIMB, hdN, injB, a2d, a1q, a2b, hdN, a1c, a0v, a1y, a4p, a3l, a2w, a8f, a0d, a3a, a4w, a2j, a1w, a5l, a1z, a0a, a1g, a0b, a0e, a6x, a8o, a8n, a8m, a1j, a0y, a0z, a2k, a2l, a2m, anR, a3i, MG_t, MG_f, a6b, h81]; done)))); rintro ⟨⟨f, Y⟩, hf, hld, hfm⟩; simp only [lpS, LPXB]; (try dsimp only at hf hld hfm); have hY := hld.shp; rcases a1t hf with hlf | ⟨hlf, he⟩; rotate_left; subst f; rotate_left; have wf := wli hlf (by omega); have hfY : f < Y.regs.length := (by rw [hY.rn]; exact hlf); have hfx : f < x.regs.length := (by omega); have hR1 : f < (rowR Y.regs).length := (by simpa [a1j] using hfY); have hYl := hY.fn f hfY hlf; have hrr := hp.regs (List.getElem_mem hlf); by_cases hxl : ((x.regs[f]'hfx).length : Int) = (p.funcs[f]'hlf).regs; rotate_left; have hsb : a2y p x = false := b5y (c7t hfx hlf (fun e => hxl (by have := hrr.p0; have := hrr.p1; omega))); rotate_right; have hYr : (Y.regs[f]'hfY).length <= 64 := (by have := hrr.r64; omega))
  | ((with_reducible refine a1u ?_); refine a2n (σ := {y : Nat × Pts // y.1 <= (x.regs[f]'hfx).length /\ Gv.Ld p x f y.1 0 y.2 /\ fm3 p (x.regs[f]'hfx) y.1}) (fun y => [(8, .undef), (9, .undef)]) [68, 67, 51, 50, 49] (fun y => [(69, .int .i64 (y.1.1 : Int))]) [] (fun y => []) (fun y => MN p y.1.2) (fun y => (x.regs[f]'hfx).length - y.1.1) ⟨(0, Y), by simp, hld, f1v p _⟩ (gk3i (j := 7) [] (bsMN hY 7 (by decide)) ?_ ?_ ?_ ?_ ?_ ?_ ?_) ?_; (iterate 7 (focus (first | rfl | (simp [LPXB, *, SIMB, hdN, injB, a2d, a1q, a2b, hdN, a1c, a0v, a1y, a4p, a3l, a2w, a8f, a0d, a3a, a4w, a2j, a1w, a5l, a1z, a0a, a1g, a0b, a0e, a6x, a8o, a8n, a8m, a1j, a0y, a0z, a2k, a2l, a2m, anR, a3i, MG_t, MG_f, a6b, h81]; done)))); rintro ⟨⟨r, Z⟩, hr, hlz, hf3⟩; simp only [lpS, LPXB]; (try dsimp only at hr hlz hf3); have hZ := hlz.shp; rcases a1t hr with hlr | ⟨hlr, he⟩; rotate_left; subst r; rotate_left; have wr := wli hlr (by omega); have hlr' : (r : Int) < (p.funcs[f]'hlf).regs := (by omega); have hfZ : f < Z.regs.length := (by rw [hZ.rn]; exact hlf); have hR2 : f < (rowR Z.regs).length := (by simpa [a1j] using hfZ); have hZl := hZ.fn f hfZ hlf; have hrZ : r < (Z.regs[f]'hfZ).length := (by omega); have hM2 : r < (rowM f (Z.regs[f]'hfZ)).length := (by simpa [a0y] using hrZ); have hq0 := hx.rs _ (List.getElem_mem hfx) _ (List.getElem_mem hlr); cases hsb : setB ((x.regs[f]'hfx)[r]'hlr) ((a0i p).length : Int); have hsn : a2y p x = false := b5y (c7s hfx hlr hsb); rotate_left)
  | ((with_reducible refine a1p ?_); refine a2a (⟨(r + 1, setS Z (.r f r) ((x.regs[f]'hfx)[r]'hlr)), by omega, f1f hfx hlr hlz (d1s hfZ hrZ) hsb, f1u hf3 hlr hsb⟩) (gk3i (j := 7) [] (bsMN hZ2 7 (by decide)) ?_ ?_ ?_ ?_ ?_ ?_ ?_) ?_; (iterate 7 (focus (first | rfl | (simp [LPXB, *, SIMB, hdN, injB, a2d, a1q, a2b, hdN, a1c, a0v, a1y, a4p, a3l, a2w, a8f, a0d, a3a, a4w, a2j, a1w, a5l, a1z, a0a, a1g, a0b, a0e, a6x, a8o, a8n, a8m, a1j, a0y, a0z, a2k, a2l, a2m, anR, a3i, MG_t, MG_f, a6b, h81]; done)))); (focus (dsimp only; omega)))
  | ((with_reducible refine a1p ?_); refine a2a (⟨(f + 1, Z), by omega, e6d hfx hlz, f1w hfm hfx hlf (by omega) hf3⟩) (gk3i (j := 7) [] (bsMN hZ 7 (by decide)) ?_ ?_ ?_ ?_ ?_ ?_ ?_) ?_; (iterate 7 (focus (first | rfl | (simp [LPXB, *, SIMB, hdN, injB, a2d, a1q, a2b, hdN, a1c, a0v, a1y, a4p, a3l, a2w, a8f, a0d, a3a, a4w, a2j, a1w, a5l, a1z, a0a, a1g, a0b, a0e, a6x, a8o, a8n, a8m, a1j, a0y, a0z, a2k, a2l, a2m, anR, a3i, MG_t, MG_f, a6b, h81]; done)))); (focus (dsimp only; omega)))
  | ((with_reducible refine a1u ?_); refine a2n (σ := {y : Nat × Pts // y.1 <= x.cells.length /\ Gv.Ld p x p.funcs.length 0 y.1 y.2 /\ fm1 p x y.1}) (fun y => [(10, .undef), (11, .undef)]) [92, 91] (fun y => [(93, .int .i64 (y.1.1 : Int))]) [] (fun y => []) (fun y => MN p y.1.2) (fun y => x.cells.length - y.1.1) ⟨(0, Y), by simp, hld, f1z p _⟩ (gk3i (j := 7) [] (bsMN hY 7 (by decide)) ?_ ?_ ?_ ?_ ?_ ?_ ?_) ?_; (iterate 7 (focus (first | rfl | (simp [LPXB, *, SIMB, hdN, injB, a2d, a1q, a2b, hdN, a1c, a0v, a1y, a4p, a3l, a2w, a8f, a0d, a3a, a4w, a2j, a1w, a5l, a1z, a0a, a1g, a0b, a0e, a6x, a8o, a8n, a8m, a1j, a0y, a0z, a2k, a2l, a2m, anR, a3i, MG_t, MG_f, a6b, h81]; done)))); rintro ⟨⟨o, Z⟩, ho, hlz, hf1⟩; simp only [lpS, LPXB]; (try dsimp only at ho hlz hf1); have hZ := hlz.shp; rcases a1t ho with hlo | ⟨hlo, he⟩; rotate_left; subst o; have hfB : a8x p x = true := c7u (by rw [d1]) d3 d2 (by rw [<- d3]; exact hf1) (by rw [d2]; exact hfm); have hzx : Z = x := Gv.Ld.eq (by rw [<- d3]; exact hlz) (b1z hfB); have hX := (b1z hfB).shp; rotate_left; have wo := wli hlo (by have := hx.c; omega); have hlo' : o < (a0i p).length := (by omega); have hoZ : o < Z.cells.length := (by rw [hZ.cn]; omega); have hC2 : o < (rowC Z.cells).length := (by simpa [a0z] using hoZ); have hq0 := hx.cs _ (List.getElem_mem hlo); cases hsb : setB (x.cells[o]'hlo) ((a0i p).length : Int); have hsn : a2y p x = false := b5y (c3d hlo hsb); rotate_left)
  | ((with_reducible refine a1p ?_); refine a2a (⟨(o + 1, setS Z (.c o) (x.cells[o]'hlo)), by omega, e6e hlo hlz hoZ hsb, f1y hf1 (by rw [d1]; omega) (by omega) hlo (by simp [d1]) hsb⟩) (gk3i (j := 7) [] (bsMN hZ2 7 (by decide)) ?_ ?_ ?_ ?_ ?_ ?_ ?_) ?_; (iterate 7 (focus (first | rfl | (simp [LPXB, *, SIMB, hdN, injB, a2d, a1q, a2b, hdN, a1c, a0v, a1y, a4p, a3l, a2w, a8f, a0d, a3a, a4w, a2j, a1w, a5l, a1z, a0a, a1g, a0b, a0e, a6x, a8o, a8n, a8m, a1j, a0y, a0z, a2k, a2l, a2m, anR, a3i, MG_t, MG_f, a6b, h81]; done)))); (focus (dsimp only; omega)))
  | ((with_reducible refine a2c (id := 14) fun K hK => ?_); refine a1o 12 ?_)
  | ((with_reducible refine a2c (id := 21) fun K hK => ?_); refine a1o 9 ?_)
  | ((with_reducible refine a2c (id := 25) fun K hK => ?_); refine e4e (gk5i (vs1 := [.undef, .undef, .undef, .undef, .bool false, .ptr [81] 8 0 0, .undef, .undef, .undef, .undef, .undef, .undef, .ptr [88] 1 0 0]) (tm1 := []) (ix1 := []) (L1 := [([88], .cells 4 1 [[.bool true]])]) [([88], some [7, 12])] f6x (by rfl) ?_ ?_ (bsMN hX 7 (by decide)).clo (fun _ h => h.elim) ?_ ?_ ?_) ?_; (focus (intro n hn; simp at hn; (try dsimp only); rcases hn with rfl | rfl <;> simp [a3k, a4p, e3u, a3l])); (focus (intro q hq; simp at hq; rcases hq with rfl | rfl | rfl <;> simp [a3k, a4p, a3l])); (focus (simp [*, SIMB, a2d, a1q, a2b, hdN, a1c, a0v, a1y, a4p, a3l, a2w, a8f, a0d, a3a, a4w, a2j, a1w, a5l, a1z, a0a, a1g, a0b, a0e, a6x, a8o, a8n, a8m, a1j, a0y, a0z, a2k, a2l, a2m, anR, a3i, MG_t, MG_f, a6b, h81]; done)); (focus (first | trivial | (simp [simT]; done))); (focus (simp [*, SIMB, a2d, a1q, a2b, hdN, a1c, a0v, a1y, a4p, a3l, a2w, a8f, a0d, a3a, a4w, a2j, a1w, a5l, a1z, a0a, a1g, a0b, a0e, a6x, a8o, a8n, a8m, a1j, a0y, a0z, a2k, a2l, a2m, anR, a3i, MG_t, MG_f, a6b, h81]; done)); refine a1o 2 ?_)
  | ((with_reducible refine mdH ?_); refine a3j (by kernel_rfl) (fun d hd => ?_) rfl (f1c hp (.r f r) hZ (bsN0 p 7 (by decide)) (d1s hfZ hrZ) (g2b hlz) (Nat.le_trans hq0 (by decide)) ?_ ?_) ?_; (focus (cases hd; exact Nat.le_of_ble_eq_true rfl)); (focus rfl); (focus (first | rfl | (simp [ninL, ninO, a3p, nins, nin, a0f, a0h, a0a, a1g, a0b, a0c, a1z, mapO, a2h, a1y, a1c, a0v, hdN, *]; done))); (rintro r' H' ⟨rfl, Z2, rfl, hZ2, hset⟩); rw [hsb]; (try (simp only [hsb, forall_const, true_imp_iff, Bool.false_eq_true, false_imp_iff] at hset)); (try subst hset))
  | ((with_reducible refine mdH ?_); refine a3j (by kernel_rfl) (fun d hd => ?_) rfl (f1c hp (.c o) hZ (bsN0 p 7 (by decide)) hoZ (g2c hlz) (Nat.le_trans hq0 (by decide)) ?_ ?_) ?_; (focus (cases hd; exact Nat.le_of_ble_eq_true rfl)); (focus rfl); (focus (first | rfl | (simp [ninL, ninO, a3p, nins, nin, a0f, a0h, a0a, a1g, a0b, a0c, a1z, mapO, a2h, a1y, a1c, a0v, hdN, *]; done))); (rintro r' H' ⟨rfl, Z2, rfl, hZ2, hset⟩); rw [hsb]; (try (simp only [hsb, forall_const, true_imp_iff, Bool.false_eq_true, false_imp_iff] at hset)); (try subst hset))
  | ((with_reducible refine mdH ?_); refine a3j (by kernel_rfl) (fun d hd => ?_) rfl (f6c hp (m := true) (f6b p) (by kernel_rfl) (L := []) hX (bsM0 p 7 (by decide)) (by rfl) trivial) ?_; (focus (cases hd; exact Nat.le_of_ble_eq_true rfl)); (rintro r' H' ⟨rfl, Z2, g2, rfl, hZ2, hT⟩); have hg := e4z hv hfB rfl hT)
  | (with_reducible refine a5f ?_)
  | (with_reducible refine e4f ?_)
  | (with_reducible refine a6y ?_)
  | with_reducible first | refine a0u (id := 4) 30 a0m (by kernel_rfl) fun K hK => ?_ | refine stp ?_
  | (with_reducible refine stpK ?_; intro K hK)
  | (with_reducible refine stpC ?_; intro T E hT hE)
  | (with_reducible refine stp2 ?_ ?_ <;> intro h)
  | with_reducible first | refine a0p rfl ?_ | refine a1h hval (by simp [nls, nl, *, NLXB]) ?_ | refine hpc hval (by simp [nls, nl, *, NLXB]) ?_ | refine a1h heq (by simp [nls, nl, *, NLXB]) ?_ | refine hpc heq (by simp [nls, nl, *, NLXB]) ?_ | refine a1r rfl (Nat.le_of_ble_eq_true rfl) a0r ?_ | refine a1r rfl (Nat.le_of_ble_eq_true rfl) (a0q (by simp [HPXB, a4p, a2b, ext, upd, *])) ?_ | refine a1s (by decide) (by kernel_rfl) ?_ | refine a0x (by decide) ?_
  | (with_reducible refine Kont.go hK ?_; clear hK K)
  | ((with_reducible first | refine KT.go hT ?_ | refine KT.go hE ?_); clear hT hE T E)
  | simp [*, -List.all_flatten, -List.all_eq_true, DEFM, a2d, a1q, a2b, hdN, a1c, a0v, a1y, a4p, a3l, a2w, a8f, a0d, a3a, a4w, a2j, a1w, a5l, a1z, a0a, a1g, a0b, a0e, a6x, a8o, a8n, a8m, a1j, a0y, a0z, a2k, a2l, a2m, anR, a3i, MG_t, MG_f, a6b, d0l]
end Go.Ge
namespace Go.Ge
open Go Go.FM Go.Gv Go.Proofs
set_option maxRecDepth 100000
set_option maxHeartbeats 40000000
open Classical in
noncomputable def lfpP (p : Pg) : Pts := if h : a2v p = true /\ ∃ x, Least p x then h.2.choose else ⟨[], [], []⟩
theorem c7c {p : Pg} {x : Pts} (hv : a2v p = true) (h : Least p x) : lfpP p = x := by
 have hh : a2v p = true /\ ∃ x, Least p x := ⟨hv, x, h⟩
 unfold lfpP
 rw [dif_pos hh]
 exact hh.2.choose_spec.unique h
theorem d3k {p : Pg} (hv : a2v p = false) : lfpP p = ⟨[], [], []⟩ := by
 unfold lfpP
 rw [dif_neg fun h => by rw [hv] at h; cases h.1]
theorem crd0 {p : Pg} (hp : VOk p) : Crd p (a4h p) := ⟨(a5a hp).shp, fun z _ e => ⟨e, fun t o ho => by
 have h := (Gv.Ld.zero hp (a4h p)).at' t
 rw [h] at ho
 cases t <;> simp [ldd] at ho⟩⟩
theorem e9t {p : Pg} (hp : VOk p) {L : List (FM.Loc × FO)} (hL : hdN 7 (L.map Prod.fst) = true) (hn : ninL (inH (HP L noH (MN p (a4h p)))) L) (hn' : ninL (inH (HP L noH (MF p (a4h p) false))) L) :
 FCr Tryz.prog Gl 25 [.ptr [81] 8 0 0, .clo 26 [] []] (HP [] (updL L noH) (MN p (a4h p))) (OutU p (updL L noH)) := by
 refine e4q hp (crd0 hp) ((bsM0 p 7 (by decide)).call (b := false) 6 (by decide) (a5a hp).shp hL hn') ((bsN0 p 7 (by decide)).call 6 (by decide) (a5a hp).shp hL hn) ?_
 rw [a7s fun q hq e => ?_]
 . rfl
 . obtain ⟨r, hr⟩ := a8c hL q.1 (List.mem_map_of_mem hq)
   rw [e] at hr; simp at hr
theorem g4r {L : List (FM.Loc × FO)} {B : Heap} {p : Pg} {y : Pts} {f i : Nat} (h : f < y.regs.length) (h' : i < y.regs[f].length) : HP L B (MN p y) [85, f, i] = some (mapO y.regs[f][i]) := by
 have := c3u (L := L) (B := B) (p := p) (y := y) (t := .r f i) (d1s h h')
 rw [show getS y (.r f i) = y.regs[f][i] from c4i h h'] at this
 exact this
theorem g4q {L : List (FM.Loc × FO)} {B : Heap} {p : Pg} {y : Pts} {o : Nat} (h : o < y.cells.length) : HP L B (MN p y) [86, o] = some (mapO y.cells[o]) := by
 have := c3u (L := L) (B := B) (p := p) (y := y) (t := .c o) h
 rw [show getS y (.c o) = y.cells[o] from d0h h] at this
 exact this
theorem c7f (R : List (List Int)) {i : Nat} (h : i < R.length) : lays ((R.map Gv.srt).take (i + 1)) = lays ((R.map Gv.srt).take i) ++ [[.list 1 (ints (Gv.srt R[i]))]] := by
 have := b1p (R.map Gv.srt) (i := i) (by simpa using h)
 simpa using this
theorem e6c (R : List (List (List Int))) {i : Nat} (h : i < R.length) : lls ((R.map (·.map Gv.srt)).take (i + 1)) = lls ((R.map (·.map Gv.srt)).take i) ++ [[.list 1 (lays (R[i].map Gv.srt))]] := by
 rw [c2f (R := R.map (·.map Gv.srt)) (i := i) (by simpa using h), b8z]
 simp [d3f, a4w]
theorem c9l {p : Pg} (hb : PgB p) (hv : a2v p = false) : PC Tryz.prog Gl 10 [.agg [.list 4 (fns p.funcs), .list 2 (gbs p.globals), .list 1 (lays p.layouts), .int .i64 p.main]] (.agg [.nils, .nils, .nils]) := by
 have hval : PC Tryz.prog Gl 23 [.agg [.list 4 (fns p.funcs), .list 2 (gbs p.globals), .list 1 (lays p.layouts), .int .i64 p.main]] (.bool (a2v p)) := by rw [<- b0i]; exact c19 p hb.f hb.g hb.l hb.ll hb.c
 refine a3d (res := [.cell 2 33]) 12 73 [30, 29, 28, 36, 35, 34, 59, 58, 57] (fun d ix => 7 :: d :: ix) (fn := Tryz.f10) (by kernel_rfl) (by rfl) (by rfl) (by rfl) (by simp) (by decide) ?_
 repeat' first
  | with_reducible refine stp ?_
  | (with_reducible refine stpK ?_; intro K hK)
  | (with_reducible refine stpC ?_; intro T E hT hE)
  | (with_reducible refine stp2 ?_ ?_ <;> intro h)
  | with_reducible first | refine a0p rfl ?_ | refine a1h hval (by simp [nls, nl, *, NLXB]) ?_ | refine hpc hval (by simp [nls, nl, *, NLXB]) ?_ | refine a1r rfl (Nat.le_of_ble_eq_true rfl) a0r ?_ | refine a1r rfl (Nat.le_of_ble_eq_true rfl) (a0q (by simp [HPXB, a4p, ext, upd, *])) ?_ | refine a1s (by decide) (by kernel_rfl) ?_ | refine a0x (by decide) ?_
  | (with_reducible refine Kont.go hK ?_; clear hK K)
  | ((with_reducible first | refine KT.go hT ?_ | refine KT.go hE ?_); clear hT hE T E)
  | simp [*, -List.all_flatten, -List.all_eq_true, DEFM, asR, a3l]
 exact ⟨_, _, ⟨rfl, rfl⟩, .inl rfl, _, _, rfl, .inl rfl, _, rfl, .inl rfl⟩
end Go.Ge
namespace Go.Ge
open Go Go.FM Go.Gv Go.Proofs
set_option maxRecDepth 100000
set_option maxHeartbeats 40000000
theorem d6p {P : Program} {Gq : List (Nat × List Value)} {f : FuncId} {A : List FV} {r y : FV} {H' : Heap} {n : Nat} (h : FC P Gq f A noH r H') (hz : frz H' n r = some y) : PC P Gq f A y := by
 intro w F m vs hF hG hv hH
 refine (h w F m vs hF hG hv hH).mono ?_
 rintro e w' ⟨v, F', m', rfl, k1, k2, k3, k4, k5, k6, k7, k8, k9, k10, k11⟩
 obtain ⟨g1, _⟩ := (c3c (m' := m') k5 n).1 _ _ _ hz k4
 refine ⟨v, frzF F' H' m', m', rfl, fun y hy => .inl (k1 y hy), fun y hy => ?_, fun l hl => absurd rfl hl, g1.keep (fun _ h => h) (fun _ _ => rfl) (fun _ h => h.elim) (fun _ _ => rfl), a8w _ _ _, fun l ⟨_, h, _⟩ => (by cases h), k7, fun y hy hn => k8 y hy hn, k9, k10, k11⟩
 rcases hy with hy | ⟨l, hl, rfl⟩
 . exact k2 y hy
 . refine ⟨?_, (k5.old l hl).1⟩
   rcases k6 l hl with ⟨_, ⟨_, h, _⟩, _⟩ | h
   . cases h
   . exact .inr h
theorem d9z {L : List (FM.Loc × FO)} {B : Heap} {Y : Pts} (S : List (Int × Int)) (k : Nat) (hk : Y.regs.length + 10 <= k) : frz (HP L B (PF Y)) k (.agg [.list 2 (sits S), .sl [91] 1 0 Y.regs.length, .sl [93] 1 0 Y.cells.length]) = some (.agg [.list 2 (sits S), .list 1 (lls Y.regs), .list 1 (lays Y.cells)]) := by
 obtain ⟨k, rfl⟩ : ∃ q, k = q + 10 := ⟨k - 10, by omega⟩
 have h1 : frzR (HP L B (PF Y)) (k + 6) (rowN Y.regs) = some (lls Y.regs) := by
  refine c1f (m := 3) _ _ (by simp [a1i, a2w]) (fun i h h' q hq => ?_) (fun hn => ?_) _ (by rw [a1i]; omega)
  . rw [a4c h, a8f h']
    exact d4t (by rwa [a1i] at h) q hq
  . cases e : Y.regs with
    | nil => rfl
    | cons a r => rw [e] at hn; simp [rowN, nlss, nls, nl, List.mapIdx_cons] at hn
 have e1 : (rowN Y.regs).take Y.regs.length = rowN Y.regs := List.take_of_length_le (by rw [a1i]; exact Nat.le_refl _)
 simp [frz, frzs, nls, nl, a1g, a4i, a3u, a1i, e1, h1, d4u, a0d, a0a, a4g, List.take_of_length_le]
theorem bsC0 : BsC noH := ⟨fun _ _ _ => rfl, fun _ => rfl, fun _ => rfl, fun _ => rfl, fun _ _ h => (by cases h), fun _ _ h => (by cases h)⟩
theorem d1i {x : Pts} (hx : PtB 2000000 x) : PC Tryz.prog Gl 15 [.agg [.list 2 (sits x.sites), .list 1 (lls x.regs), .list 1 (lays x.cells)]] (.agg [.list 2 (sits x.sites), .list 1 (lls x.regs), .list 1 (lays x.cells)]) := by
 have h := d1j hx bsC0
 rw [show HP [] noH noH = noH from d6v.symm] at h
 exact d6p h (d9z x.sites (x.regs.length + 10) (Nat.le_refl _))
def b9a (p : Pg) : Bool := decide (150 < grN p p.funcs.length)
def b0b (x : Pts) : Bool := decide (60 < x.sites.length) || (decide (64 < x.regs.length) || (decide (60 < x.cells.length) || x.regs.any fun r => decide (64 < r.length)))
theorem d3r {x : Pts} {i : Nat} (h : i < x.regs.length) (hc : 64 < x.regs[i].length) : b0b x = true := by
 have : (x.regs.any fun r => decide (64 < r.length)) = true := List.any_eq_true.2 ⟨_, List.getElem_mem h, by simpa using hc⟩
 simp [b0b, this]
theorem d3s {x : Pts} (h1 : ¬ 60 < x.sites.length) (h2 : ¬ 64 < x.regs.length) (h3 : ¬ 60 < x.cells.length) (h : ∀ j (hj : j < x.regs.length), j < x.regs.length -> ¬ 64 < x.regs[j].length) : b0b x = false := by
 have : (x.regs.any fun r => decide (64 < r.length)) = false := by
  rw [List.any_eq_false]
  intro r hr
  obtain ⟨j, hj, rfl⟩ := List.getElem_of_mem hr
  simpa using h j hj hj
 simp [b0b, this, h1, h2, h3]
theorem d3q {x : Pts} (h : 60 < x.sites.length \/ 64 < x.regs.length \/ 60 < x.cells.length) : b0b x = true := by
 rcases h with h | h | h <;> simp [b0b, h]
def b9y (x : Pts) (i : Nat) : Prop := ∀ j (hj : j < x.regs.length), j < i -> ¬ 64 < x.regs[j].length
theorem d1r (x : Pts) : b9y x 0 := fun _ _ h => by omega
theorem d1q {x : Pts} {i : Nat} (h : b9y x i) (hi : i < x.regs.length) (hc : ¬ 64 < x.regs[i].length) : b9y x (i + 1) := fun j hj hji => by
 by_cases e : j = i
 . subst e; exact hc
 . exact h j hj (by omega)
theorem b9q (p : Pg) (hf : p.funcs.length <= 2000000) (hfc : ∀ x ∈ p.funcs, x.code.length <= 2000000) : PC Tryz.prog Gl 8 [.agg [.list 4 (fns p.funcs), .list 2 (gbs p.globals), .list 1 (lays p.layouts), .int .i64 p.main]] (.bool (b9a p)) := by
 have hg0 : IntKind.wrap .i64 ((p.globals.length : Int) + (p.layouts.length : Int)) = grN p 0 := rfl
 refine a3d (res := [.tmp 2]) 5 40 [] (fun d ix => 0 :: d :: ix) (fn := Tryz.f8) (by kernel_rfl) (by rfl) (by rfl) (by rfl) (by simp) (by decide) ?_
 repeat' first
  | ((with_reducible refine a1u ?_); refine a2n (σ := {i : Nat // i <= p.funcs.length}) (fun y => [(3, .int .i64 (grN p y.1)), (4, .int .i64 (y.1 : Int))]) [] (fun y => []) [] (fun y => []) (fun y => noH) (fun y => p.funcs.length - y.1) ⟨0, by simp⟩ (gk3 (j := 0) [] (Bs.pc _) ?_ ?_ ?_ ?_ ?_ ?_ ?_) ?_; (iterate 7 (focus (first | rfl | (simp [LPXB, *, SIMB, hdN, injB]; done)))); rintro ⟨i, hi⟩; simp only [lpS, LPXB]; (try dsimp only at hi); rcases a1t hi with hlt | ⟨hlt, rfl⟩; have wi := wli hlt (Nat.le_trans hf (by decide)); have e := g2k hlt; have hfc' := hfc _ (List.getElem_mem hlt); have hwl := wlen (p.funcs[i]'hlt).code.length (by omega))
  | ((with_reducible refine a1p ?_); refine a2a (⟨i + 1, by omega⟩) (gk3 (j := 0) [] (Bs.pc _) ?_ ?_ ?_ ?_ ?_ ?_ ?_) ?_; (iterate 7 (focus (first | rfl | (simp [LPXB, *, SIMB, hdN, injB]; done)))); (focus (dsimp only; omega)))
  | with_reducible first | refine a0u (id := 5) 19 a0m (by kernel_rfl) fun K hK => ?_ | refine stp ?_
  | (with_reducible refine stpK ?_; intro K hK)
  | (with_reducible refine stpC ?_; intro T E hT hE)
  | (with_reducible refine stp2 ?_ ?_ <;> intro h)
  | with_reducible first | refine a0p rfl ?_ | refine a1r rfl (Nat.le_of_ble_eq_true rfl) a0r ?_ | refine a1r rfl (Nat.le_of_ble_eq_true rfl) (a0q (by simp [HPXB, ext, upd, *])) ?_ | refine a1s (by decide) (by kernel_rfl) ?_ | refine a0x (by decide) ?_
  | (with_reducible refine Kont.go hK ?_; clear hK K)
  | ((with_reducible first | refine KT.go hT ?_ | refine KT.go hE ?_); clear hT hE T E)
  | simp [*, -List.all_flatten, -List.all_eq_true, DEFB, LENB, b9a, g2u, asR]
theorem d7n {x : Pts} (hx : PtB 2000000 x) (d1 : ¬ 60 < x.sites.length) (d2 : ¬ 64 < x.regs.length) (d3 : ¬ 60 < x.cells.length) : PC Tryz.prog Gl 13 [.agg [.list 2 (sits x.sites), .list 1 (lls x.regs), .list 1 (lays x.cells)]] (.bool (b0b x)) := by
 have e1 : (60 : Int) < (x.sites.length : Int) ↔ 60 < x.sites.length := by omega
 have e2 : (64 : Int) < (x.regs.length : Int) ↔ 64 < x.regs.length := by omega
 have e3 : (60 : Int) < (x.cells.length : Int) ↔ 60 < x.cells.length := by omega
 refine a3d (res := [.tmp 2]) 4 34 [] (fun d ix => 0 :: d :: ix) (fn := Tryz.f13) (by kernel_rfl) (by rfl) (by rfl) (by rfl) (by simp) (by decide) ?_
 repeat' first
  | ((with_reducible refine a1u ?_); refine a2n (σ := {i : Nat // i <= x.regs.length /\ b9y x i}) (fun y => [(3, .int .i64 (y.1 : Int))]) [] (fun y => []) [] (fun y => []) (fun y => noH) (fun y => x.regs.length - y.1) ⟨0, by simp, d1r x⟩ (gk3 (j := 0) [] (Bs.pc _) ?_ ?_ ?_ ?_ ?_ ?_ ?_) ?_; (iterate 7 (focus (first | rfl | (simp [LPXB, *, SIMB, hdN, injB]; done)))); rintro ⟨i, hi, hk⟩; simp only [lpS, LPXB]; (try dsimp only at hi hk); rcases a1t hi with hlt | ⟨hlt, rfl⟩; have wi := wli hlt (Nat.le_trans hx.r (by decide)); by_cases c1 : 64 < (x.regs[i]'hlt).length; have hlr := d3r hlt c1; have c2 : (64 : Int) < ((x.regs[i]'hlt).length : Int) := (by omega); rotate_left; have c2 : ¬ (64 : Int) < ((x.regs[i]'hlt).length : Int) := (by omega); rotate_left; have hlr := d3s d1 d2 d3 hk)
  | ((with_reducible refine a1p ?_); refine a2a (⟨i + 1, by omega, d1q hk hlt c1⟩) (gk3 (j := 0) [] (Bs.pc _) ?_ ?_ ?_ ?_ ?_ ?_ ?_) ?_; (iterate 7 (focus (first | rfl | (simp [LPXB, *, SIMB, hdN, injB]; done)))); (focus (dsimp only; omega)))
  | with_reducible refine stp ?_
  | (with_reducible refine stpK ?_; intro K hK)
  | (with_reducible refine stpC ?_; intro T E hT hE)
  | (with_reducible refine stp2 ?_ ?_ <;> intro h)
  | with_reducible first | refine a0p rfl ?_ | refine a1r rfl (Nat.le_of_ble_eq_true rfl) a0r ?_ | refine a1r rfl (Nat.le_of_ble_eq_true rfl) (a0q (by simp [HPXB, ext, upd, *])) ?_ | refine a1s (by decide) (by kernel_rfl) ?_ | refine a0x (by decide) ?_
  | (with_reducible refine Kont.go hK ?_; clear hK K)
  | ((with_reducible first | refine KT.go hT ?_ | refine KT.go hE ?_); clear hT hE T E)
  | simp [*, -List.all_flatten, -List.all_eq_true, DEFB, LENB, asR]
theorem d7m {x : Pts} (hx : PtB 2000000 x) (d : 60 < x.sites.length \/ 64 < x.regs.length \/ 60 < x.cells.length) : PC Tryz.prog Gl 13 [.agg [.list 2 (sits x.sites), .list 1 (lls x.regs), .list 1 (lays x.cells)]] (.bool (b0b x)) := by
 have e1 : (60 : Int) < (x.sites.length : Int) ↔ 60 < x.sites.length := by omega
 have e2 : (64 : Int) < (x.regs.length : Int) ↔ 64 < x.regs.length := by omega
 have e3 : (60 : Int) < (x.cells.length : Int) ↔ 60 < x.cells.length := by omega
 have hlo := d3q d
 have hd : 60 < x.sites.length \/ (¬ 60 < x.sites.length /\ 64 < x.regs.length) \/ (¬ 60 < x.sites.length /\ ¬ 64 < x.regs.length /\ 60 < x.cells.length) := by omega
 clear d
 rcases hd with d | ⟨d1, d⟩ | ⟨d1, d2, d⟩
 all_goals
  refine a3d (res := [.tmp 2]) 4 34 [] (fun d ix => 0 :: d :: ix) (fn := Tryz.f13) (by kernel_rfl) (by rfl) (by rfl) (by rfl) (by simp) (by decide) ?_
  repeat' first
   | with_reducible refine stp ?_
   | (with_reducible refine stpK ?_; intro K hK)
   | (with_reducible refine stpC ?_; intro T E hT hE)
   | (with_reducible refine stp2 ?_ ?_ <;> intro h)
   | with_reducible first | refine a0p rfl ?_ | refine a1r rfl (Nat.le_of_ble_eq_true rfl) a0r ?_ | refine a1r rfl (Nat.le_of_ble_eq_true rfl) (a0q (by simp [HPXB, ext, upd, *])) ?_ | refine a1s (by decide) (by kernel_rfl) ?_ | refine a0x (by decide) ?_
   | (with_reducible refine Kont.go hK ?_; clear hK K)
   | ((with_reducible first | refine KT.go hT ?_ | refine KT.go hE ?_); clear hT hE T E)
   | simp [*, -List.all_flatten, -List.all_eq_true, DEFB, LENB, asR]
theorem b9p {x : Pts} (hx : PtB 2000000 x) : PC Tryz.prog Gl 13 [.agg [.list 2 (sits x.sites), .list 1 (lls x.regs), .list 1 (lays x.cells)]] (.bool (b0b x)) := by
 by_cases d : 60 < x.sites.length \/ 64 < x.regs.length \/ 60 < x.cells.length
 . exact d7m hx d
 . exact d7n hx (fun h => d (.inl h)) (fun h => d (.inr (.inl h))) fun h => d (.inr (.inr h))
theorem rgI : Rd Tryz.prog 3 1 (fun n : Int => [.int .i64 n]) (fun _ n => IntKind.i64.min <= n /\ n <= IntKind.i64.max) := f0j Tryz.underlying3 (by kernel_rfl)
theorem rgS : Rd Tryz.prog 9 1 (fun s : ByteArray => [.str s]) (fun N s => s.size <= maxLen /\ s.size <= N) := f0i Tryz.underlying9 (by kernel_rfl)
theorem g1n : Rd Tryz.prog 72 5 Ins.row (fun _ _ => True) :=
 a9w Tryz.underlying72 (by kernel_rfl) (a4n rfl rgI (a4n rfl rgI (a4n rfl rgI (a4n rfl rgI (a4n rfl rgI b4n))))) (fun x => match x with | (x0, x1, x2, x3, x4, ()) => ⟨x0, x1, x2, x3, x4⟩) (by intro x; rfl) (fun _ _ _ => trivial) (by intro y; rfl)
theorem f0g : Rd Tryz.prog 46 1 (fun L : List Ins => [.list 5 (inss L)]) (fun N L => L.length <= N /\ ∀ x ∈ L, True) := b0o Tryz.underlying46 (by kernel_rfl) (by decide) g1n
theorem rgFn : Rd Tryz.prog 48 4 FnD.row (fun N f => f.code.length <= N) :=
 a9w Tryz.underlying48 (by kernel_rfl) (a4n rfl rgS (a4n rfl rgI (a4n rfl rgI (a4n rfl f0g b4n)))) (fun x => match x with | (x0, x1, x2, x3, ()) => ⟨x0, x1, x2, x3⟩) (by intro x; rfl) (fun _ _ h => h.2.2.2.1.1) (by intro y; rfl)
theorem g1p : Rd Tryz.prog 22 1 (fun L : List FnD => [.list 4 (fns L)]) (fun N L => L.length <= N /\ ∀ x ∈ L, x.code.length <= N) := b0o Tryz.underlying22 (by kernel_rfl) (by decide) rgFn
theorem rgGb : Rd Tryz.prog 77 2 Gb.row (fun _ _ => True) :=
 a9w Tryz.underlying77 (by kernel_rfl) (a4n rfl rgS (a4n rfl rgI b4n)) (fun x => match x with | (x0, x1, ()) => ⟨x0, x1⟩) (by intro x; rfl) (fun _ _ _ => trivial) (by intro y; rfl)
theorem g1o : Rd Tryz.prog 23 1 (fun L : List Gb => [.list 2 (gbs L)]) (fun N L => L.length <= N /\ ∀ x ∈ L, True) := b0o Tryz.underlying23 (by kernel_rfl) (by decide) rgGb
theorem g1m : Rd Tryz.prog 42 1 a2j (fun N L => L.length <= N /\ ∀ x ∈ L, IntKind.i64.min <= x /\ x <= IntKind.i64.max) := b0o Tryz.underlying42 (by kernel_rfl) (by decide) rgI
theorem d2j : Rd Tryz.prog 24 1 (fun L : List (List Int) => [.list 1 (lays L)]) (fun N L => L.length <= N /\ ∀ x ∈ L, x.length <= N /\ ∀ y ∈ x, IntKind.i64.min <= y /\ y <= IntKind.i64.max) := b0o Tryz.underlying24 (by kernel_rfl) (by decide) g1m
theorem g1l : Rd Tryz.prog 31 1 (fun L : List (List (List Int)) => [.list 1 (lls L)]) (fun N L => L.length <= N /\ ∀ z ∈ L, z.length <= N /\ ∀ x ∈ z, x.length <= N /\ ∀ y ∈ x, IntKind.i64.min <= y /\ y <= IntKind.i64.max) := b0o Tryz.underlying31 (by kernel_rfl) (by decide) d2j
theorem f0f : Rd Tryz.prog 40 2 a8e (fun _ _ => True) :=
 a9w Tryz.underlying40 (by kernel_rfl) (a4n rfl rgI (a4n rfl rgI b4n)) (fun x => match x with | (x0, x1, ()) => (x0, x1)) (by intro x; rfl) (fun _ _ _ => trivial) (by intro y; rfl)
theorem f0e : Rd Tryz.prog 30 1 (fun L : List (Int × Int) => [.list 2 (sits L)]) (fun N L => L.length <= N /\ ∀ x ∈ L, True) := b0o Tryz.underlying30 (by kernel_rfl) (by decide) f0f
def g1s (p : Pg) : List FV := [.list 4 (fns p.funcs), .list 2 (gbs p.globals), .list 1 (lays p.layouts), .int .i64 p.main]
def g1r (x : Pts) : List FV := [.list 2 (sits x.sites), .list 1 (lls x.regs), .list 1 (lays x.cells)]
structure PgN (N : Nat) (p : Pg) : Prop where
 hf : p.funcs.length <= N
 hg : p.globals.length <= N
 hl : p.layouts.length <= N
 hb : ∀ x ∈ p.layouts, x.length <= N
 hfc : ∀ x ∈ p.funcs, x.code.length <= N
theorem PgN.up {p : Pg} {M : Nat} (h : PgN M p) (hm : M <= 2000000) : PgB p := ⟨Nat.le_trans h.hf hm, Nat.le_trans h.hg hm, Nat.le_trans h.hl hm, fun x hx => Nat.le_trans (h.hb x hx) hm, fun x hx => Nat.le_trans (h.hfc x hx) hm⟩
theorem PtB.up {x : Pts} {M N : Nat} (h : PtB M x) (hm : M <= N) : PtB N x := ⟨Nat.le_trans h.s hm, Nat.le_trans h.r hm, Nat.le_trans h.c hm, fun a ha => Nat.le_trans (h.rr a ha) hm, fun a ha s hs => Nat.le_trans (h.rs a ha s hs) hm, fun s hs => Nat.le_trans (h.cs s hs) hm⟩
theorem rgPg : Rd Tryz.prog 26 4 g1s PgN :=
 a9w Tryz.underlying26 (by kernel_rfl) (a4n rfl g1p (a4n rfl g1o (a4n rfl d2j (a4n rfl rgI b4n)))) (fun x => match x with | (x0, x1, x2, x3, ()) => ⟨x0, x1, x2, x3⟩) (by intro x; rfl) (fun _ _ h => ⟨h.1.1, h.2.1.1, h.2.2.1.1, fun x hx => (h.2.2.1.2 x hx).1, h.1.2⟩) (by intro y; rfl)
theorem rgPt : Rd Tryz.prog 33 3 g1r (fun N x => PtB N x) :=
 a9w Tryz.underlying33 (by kernel_rfl) (a4n rfl f0e (a4n rfl g1l (a4n rfl d2j b4n))) (fun x => match x with | (x0, x1, x2, ()) => ⟨x0, x1, x2⟩) (by intro x; rfl) (fun _ _ h => ⟨h.1.1, h.2.1.1, h.2.2.1.1, fun a ha => (h.2.1.2 a ha).1, fun a ha s hs => ((h.2.1.2 a ha).2 s hs).1, fun s hs => (h.2.2.1.2 s hs).1⟩) (by intro y; rfl)
mutual
theorem a8d {H : Type} : ∀ d : DataW H, bulk d = YtfhhgjbcenhdeaaGreat.Rows.uptoBulk d
 | .lit (.string _) => by simp [bulk, YtfhhgjbcenhdeaaGreat.Rows.uptoBulk]
 | .lit (.int ..) => by simp [bulk, YtfhhgjbcenhdeaaGreat.Rows.uptoBulk]
 | .lit (.bool _) => by simp [bulk, YtfhhgjbcenhdeaaGreat.Rows.uptoBulk]
 | .lit (.float ..) => by simp [bulk, YtfhhgjbcenhdeaaGreat.Rows.uptoBulk]
 | .lit .nil => by simp [bulk, YtfhhgjbcenhdeaaGreat.Rows.uptoBulk]
 | .nil => by simp [bulk, YtfhhgjbcenhdeaaGreat.Rows.uptoBulk]
 | .ptr d => by simp [bulk, YtfhhgjbcenhdeaaGreat.Rows.uptoBulk, a8d d]
 | .slice a b => by simp [bulk, YtfhhgjbcenhdeaaGreat.Rows.uptoBulk, b2o a, b2o b]
 | .agg a => by simp [bulk, YtfhhgjbcenhdeaaGreat.Rows.uptoBulk, b2o a]
 | .iface _ d => by simp [bulk, YtfhhgjbcenhdeaaGreat.Rows.uptoBulk, a8d d]
 | .map es => by simp [bulk, YtfhhgjbcenhdeaaGreat.Rows.uptoBulk, b3a es]
 | .held _ => by simp [bulk, YtfhhgjbcenhdeaaGreat.Rows.uptoBulk]
theorem b2o {H : Type} : ∀ l : List (DataW H), a9b l = YtfhhgjbcenhdeaaGreat.Rows.uptoBulkAll l
 | [] => by simp [a9b, YtfhhgjbcenhdeaaGreat.Rows.uptoBulkAll]
 | d :: r => by simp [a9b, YtfhhgjbcenhdeaaGreat.Rows.uptoBulkAll, a8d d, b2o r]
theorem b3a {H : Type} : ∀ l : List (Lit × DataW H), a9a l = YtfhhgjbcenhdeaaGreat.Rows.uptoBulkEntries l
 | [] => by simp [a9a, YtfhhgjbcenhdeaaGreat.Rows.uptoBulkEntries]
 | x :: r => by simp [a9a, YtfhhgjbcenhdeaaGreat.Rows.uptoBulkEntries, c3n x, b3a r]
theorem c3n {H : Type} : ∀ x : Lit × DataW H, a8z x = YtfhhgjbcenhdeaaGreat.Rows.uptoBulkEntry x
 | (.string _, d) => by simp [a8z, YtfhhgjbcenhdeaaGreat.Rows.uptoBulkEntry, a8d d]
 | (.int .., d) => by simp [a8z, YtfhhgjbcenhdeaaGreat.Rows.uptoBulkEntry, a8d d]
 | (.bool _, d) => by simp [a8z, YtfhhgjbcenhdeaaGreat.Rows.uptoBulkEntry, a8d d]
 | (.float .., d) => by simp [a8z, YtfhhgjbcenhdeaaGreat.Rows.uptoBulkEntry, a8d d]
 | (.nil, d) => by simp [a8z, YtfhhgjbcenhdeaaGreat.Rows.uptoBulkEntry, a8d d]
end
end Go.Ge
