/- Parts of the proof. -/
import Derived.Test.YtfhhgjbcenhdeaaGreatDoorF17
import Derived.Test.YtfhhgjbcenhdeaaGreatDoorF36
import Derived.Test.YtfhhgjbcenhdeaaGreatDoorF37
import Derived.Test.YtfhhgjbcenhdeaaGreatDoorRows
set_option linter.unusedSimpArgs false
set_option linter.unusedVariables false
namespace Go.Je
open Go Go.FM Go.Gv Go.Proofs
set_option maxRecDepth 100000
set_option maxHeartbeats 40000000
theorem BsS.of {L : List (FM.Loc × FO)} (hl : hdN 7 (L.map Prod.fst) = true) (ho : ninL (inH (HP L noH noH)) L) : BsS (updL L noH) := by
 have hout : ∀ k r, k ≠ 7 -> updL L noH (k :: r) = none := fun k r hk => by
  rw [a5h fun p hp e => ?_]
  . rfl
  . obtain ⟨q, hq⟩ := a7m hl p.1 (List.mem_map.2 ⟨p, hp, rfl⟩)
    rw [e] at hq
    simp only [List.cons.injEq] at hq
    exact hk hq.1
 refine ⟨fun k r hk => hout k r (by omega), fun k r h1 h2 => hout k r (by omega), fun l o h => ?_⟩
 rcases a5z h with h | ⟨_, h⟩
 . exact a3k (fun q hq => hq) (a8o ho _ h)
 . cases h
theorem f9y {L : List (FM.Loc × FO)} {B : Heap} {p : Pg} {y : Pts} {b : Bool} : HP (([88], .cells 4 1 [[.bool b]]) :: L) B (MN p y) = HP L B (MF p y b) := by
 rw [d7w (show MN p y [88] = none from rfl)]
 congr 1
 funext k
 unfold upd
 by_cases e : k = [88]
 . subst e; rfl
 . rw [if_neg e, b7u e]
   unfold MF
   split <;> first | rfl | exact absurd rfl e
structure PgB (p : Pg) : Prop where
 f : p.funcs.length <= 2000000
 g : p.globals.length <= 2000000
 l : p.layouts.length <= 2000000
 ll : ∀ x ∈ p.layouts, x.length <= 2000000
 c : ∀ x ∈ p.funcs, x.code.length <= 2000000
theorem _root_.Go.Gv.Ld.zero {p : Pg} (hp : VOk p) (x : Pts) : Gv.Ld p x 0 0 0 (a4m p) := by
 refine ⟨(a5m hp).shp, fun t => ?_⟩
 have e : Gv.ldd 0 0 0 t = false := by cases t <;> simp [Gv.ldd]
 rw [e, if_neg (by simp)]
 cases t with
 | r g a =>
   simp only [Gv.getS, Gv.rg, a4m, gD_, List.getElem?_map, tN_]
   cases p.funcs[g]? with
   | none => simp
   | some f => by_cases h : a < f.regs.toNat <;> simp [List.getElem?_replicate, h]
 | c o =>
   simp only [Gv.getS, Gv.cl, a4m, gD_, List.getElem?_replicate, tN_]
   split <;> rfl
theorem f5g (p : Pg) (y : Pts) : MN p y [88] = none := rfl
theorem f0z {Y : Pts} {f r : Nat} (hf : f < Y.regs.length) (hr : r < Y.regs[f].length) : (SL.r f r).ok Y := ⟨hf, by rw [gD_, gE_ hf]; exact hr⟩
section
variable {P : Program} {c : Cfg} {ops : Array Oper} {Φ : Fs -> Prop} {s : Fs}
end
theorem TR.skip {m : Bool} {C C' : Pts -> Prop} {Y Z : Pts} {g h : Bool} (H : TR m C C Y g Z h) (hs : ∀ z, C' z -> C z) (hn : Z = Y -> C Y -> C' Y) : TR m C' C' Y g Z h :=
 ⟨H.pre, fun z hz hy => H.least z (hs z hz) hy, fun e => by obtain ⟨h1, h2, h3⟩ := H.good e; exact ⟨h1, h2, hn h2 h3⟩, fun e => ⟨(H.snd e).1, fun hg hc => (H.snd e).2 hg (hs _ hc)⟩, H.prog⟩
theorem f7w (t : SL) (ss : List Int) (z : Pts) : inS t (ss.take 0) z := fun o ho => by simp at ho
theorem e7r {t : SL} {ss : List Int} {i : Nat} (h : i < ss.length) (z : Pts) : inS t (ss.take (i + 1)) z ↔ inS t (ss.take i) z /\ inS t [ss[i]] z := by
 rw [List.take_add_one, gE_ h]
 constructor
 . intro H; exact ⟨fun o ho => H o (List.mem_append_left _ ho), fun o ho => H o (List.mem_append_right _ (by simpa using ho))⟩
 . rintro ⟨h1, h2⟩ o ho
   rcases List.mem_append.1 ho with e | e
   . exact h1 o e
   . exact h2 o (by simpa using e)
theorem f7v {t : SL} {ss ks : List Int} (hp : ss.Perm ks) (z : Pts) : inS t ks z ↔ inS t (ss.take ss.length) z := by
 rw [List.take_length]
 exact ⟨fun h o ho => h o (hp.mem_iff.1 ho), fun h o ho => h o (hp.mem_iff.2 ho)⟩
theorem f6a {t : SL} {ss : List Int} {i : Nat} {Y Z : Pts} {g h : Bool} (hi : i < ss.length) (H : TR false (inS t (ss.take i)) (inS t (ss.take i)) Y g Z h) (hin : ss[i] ∈ getS Z t) : TR false (inS t (ss.take (i + 1))) (inS t (ss.take (i + 1))) Y g Z h :=
 TR.skip H (fun z hz => ((e7r hi z).1 hz).1) fun e hc => (e7r hi _).2 ⟨hc, fun o ho => by rw [List.mem_singleton] at ho; subst ho; rw [<- e]; exact hin⟩
theorem f0p {t : SL} {ss : List Int} {i : Nat} {Y Z : Pts} {g h : Bool} (hi : i < ss.length) (ht : t.ok Z) (H : TR false (inS t (ss.take i)) (inS t (ss.take i)) Y g Z h) : TR false (inS t (ss.take (i + 1))) (inS t (ss.take (i + 1))) Y g (setS Z t (getS Z t ++ [ss[i]])) true :=
 (H.comp (TR.lay (b := h) ht ss[i])).mono (fun hc => hc.2.elim) fun z _ hz => (e7r hi z).1 hz
theorem e6r {n : Nat} {l ks ss : List Int} {i : Nat} (hi : i < ss.length) (hp : ss.Perm ks) (hk : okA n ks) (hl : okA n l) (hn : ss[i] ∉ l) : okA n (l ++ [ss[i]]) := by
 refine ⟨List.nodup_append.2 ⟨hl.1, by simp, fun a ha b hb e => ?_⟩, fun x hx => ?_⟩
 . rw [List.mem_singleton] at hb; subst hb; subst e; exact hn ha
 . rcases List.mem_append.1 hx with h | h
   . exact hl.2 x h
   . rw [List.mem_singleton] at h; subst h; exact hk.2 _ (hp.mem_iff.1 (gm_ hi))
theorem e7s {B : Heap} {p : Pg} {y : Pts} {b : Bool} (h : B [88] = none) : HSub (HP [] B (MN p y)) (HP [] B (MF p y b)) := fun l o ho => by
 by_cases e : l = [88]
 . subst e
   have : HP [] B (MN p y) [88] = B [88] := rfl
   rw [this, h] at ho; cases ho
 . have e1 : MN p y l = MF p y b l := by
    rw [b7u e]
    unfold MF
    split <;> first | rfl | exact absurd rfl e
   unfold HP at ho ⊢
   rw [a3y] at ho ⊢
   rw [<- e1]; exact ho
def OutA (p : Pg) (B : Heap) (Y : Pts) (r : FV) (H' : Heap) : Prop := ∃ Y' b, r = .bool b /\ H' = HP [] B (MN p Y') /\ Shp p Y' /\ TR false (a5t p) (a5t p) Y false Y' b
def OutU (p : Pg) (B : Heap) (r : FV) (H' : Heap) : Prop := r = .tup [] /\ ∃ Y', H' = HP [] B (MN p Y') /\ Shp p Y' /\ Least p (a7u Y')
section
variable {P : Program} {c : Cfg} {ops : Array Oper} {o o2 o3 : Oper} {post : List Oper} {Φ : Fs -> Prop} {s : Fs}
theorem f0c (h : MG P c ops o (o2 :: o3 :: post) Φ s (a2d ops o s)) : WL P c ops (o :: o2 :: o3 :: post) Φ s := a6g h
end
theorem d1r {H : Heap} {l nm : FM.Loc} (h0 : H nm = none) : FC Tryz.prog Gl 108 [.mp l] H (.clo 151 [] [.ptr nm 1 0 0]) (upd H nm (.cells 141 1 [[.mp l]])) := by
 have e0 : (fun d ix => if d = 1 then nm else 0 :: d :: ix : Nat -> List Nat -> FM.Loc) 1 [] = nm := rfl
 refine b4d (res := [.tmp 2]) 3 4 [] (fun d ix => if d = 1 then nm else 0 :: d :: ix) (fn := Tryz.f108) (by kernel_rfl) (by rfl) (by rfl) (by rfl) (by simp) (by decide) ?_
 repeat' first
  | with_reducible first | refine stp ?_ | refine stpK ?_; intro K hK | refine stpC ?_; intro T E hT hE | refine stp2 ?_ ?_ <;> intro h | refine a0g rfl ?_ | refine a0j rfl (lbR rfl) a0i ?_ | refine a0j rfl (lbR rfl) (a0h (by simp [HPXB, ext, upd, *])) ?_ | refine a1g (by decide) (by kernel_rfl) ?_ | refine a0o (by decide) ?_ | refine Kont.go hK ?_; clear hK K | refine KT.go hT ?_; clear hT hE T E | refine KT.go hE ?_; clear hT hE T E
  | simp [*, -List.all_flatten, -List.all_eq_true, DEFB, KFin]
 all_goals (funext k; simp only [upd]; split <;> rfl)
theorem f6c {p : Pg} (hp : VOk p) {B : Heap} {Y : Pts} {g : Bool} {t : SL} {lf : FM.Loc} {ks : List Int} (hy : Shp p Y) (ht : t.ok Y) (hB : BsM p 1 B) (hks : okA (a0l p).length ks) (hl : HP [] B (MF p Y g) lf = some (mapO ks)) : FCr Tryz.prog Gl 106 [.mp t.loc, .mp lf, .ptr [88] 1 0 0] (HP [] B (MF p Y g)) (OutT p false B (inS t ks) Y g) := by
 have hsv := a2t hp
 have fB : ∀ r, B (1 :: r) = none := fun r => (hB Y g Y g hy hy).fb 1 r (by decide)
 have hkl : ks.length <= 1000000000 := by have := b1n hks; omega
 have hkb : ∀ x ∈ ks, 0 <= x /\ x < 1000000000 := fun x hx => by have := hks.2 x hx; omega
 have hlf : ∀ (L : List (FM.Loc × FO)) (b' : Bool), hdN 1 (L.map Prod.fst) = true -> HP L B (MF p Y b') lf = some (mapO ks) := fun L b' hL => f5m hB (by decide) hy hl hL
 have hput : ∀ (Z : Pts) (h : Bool) (o : Int), t.ok Z -> o ∉ getS Z t -> b1f Tryz.prog (HP [] B (MF p Z h)) 141 (.mp t.loc) (.int .i64 o) (.agg []) = some ([(t.loc, mapO (getS Z t ++ [o]))], .undef) := fun Z h o hZ ho => e6j (a5u hZ) ho
 have hi1 : ∀ (L : List (FM.Loc × FO)) (Z : Pts) (b' : Bool), t.ok Z -> inH (HP L B (MF p Z b')) t.loc := fun L Z b' hZ => c7o hZ
 have hi2 : ∀ (L : List (FM.Loc × FO)) (Z : Pts) (b' : Bool), inH (HP L B (MF p Z b')) [88] := fun L Z b' => a6w
 refine a3d (res := []) 7 23 [11, 10, 9] (fun d ix => 1 :: d :: ix) (fn := Tryz.f106) (by kernel_rfl) (by rfl) (by rfl) (by rfl) (by simp) (by decide) ?_
 repeat' first
  | ((with_reducible refine a1f (id := 0) fun K hK => ?_); refine a0t 2 ?_)
  | ((with_reducible refine a1a ?_); refine a1q (σ := {x : Nat × (Pts × Bool) // x.1 <= ss.length /\ Shp p x.2.1 /\ TR false (inS t (ss.take x.1)) (inS t (ss.take x.1)) Y g x.2.1 x.2.2}) (fun y => [(1, .undef), (6, .undef)]) [10, 9] (fun y => [(11, .int .i64 (y.1.1 : Int))]) [[1, 95]] (fun y => []) (fun y => MF p y.1.2.1 y.1.2.2) (fun y => ss.length - y.1.1) ⟨(0, (Y, g)), Nat.zero_le _, hy, TR.id (f7w _ _ _)⟩ (gk3i (j := 1) [] (hB _ _ _ _ hy hy) ?_ ?_ ?_ ?_ ?_ ?_ ?_) ?_; (iterate 7 (focus (first | rfl | (simp [LPXB, *, SIMB, hdN, injB, fB, a1k, a1d, a1i, hdN, a0p, a0k, a1m, a0n, a4z, a2f]; done)))); rintro ⟨⟨i, ⟨Z, h⟩⟩, hi, hZ, hT⟩; simp only [lpS, LPXB]; (try dsimp only at hi hZ hT); have htZ := hT.pre.ok ht; rcases a0z hi with hlt | ⟨hlt, he⟩; rotate_left; subst i; rotate_left; have wi := wli hlt (by omega); by_cases hin : (ss[i]'hlt) ∈ getS Z t; rotate_left; have hZ2 := hZ.set htZ (e6r hlt hpm hks (hZ.gets t) hin); have htZ2 := f1d (t := t) (getS Z t ++ [ss[i]'hlt]) htZ; rotate_right)
  | ((with_reducible refine a0q ?_); refine a1b (⟨(i + 1, (Z, h)), by omega, hZ, f6a hlt hT hin⟩) (gk3i (j := 1) [] (hB _ _ _ _ hy hZ) ?_ ?_ ?_ ?_ ?_ ?_ ?_) ?_; (iterate 7 (focus (first | rfl | (simp [LPXB, *, SIMB, hdN, injB, fB, a1k, a1d, a1i, hdN, a0p, a0k, a1m, a0n, a4z, a2f]; done)))); (focus (dsimp only; omega)))
  | ((with_reducible refine a0q ?_); refine a1b (⟨(i + 1, (setS Z t (getS Z t ++ [ss[i]'hlt]), true)), by omega, hZ2, f0p hlt htZ hT⟩) (gk3i (j := 1) [] (hB _ _ _ _ hy hZ2) ?_ ?_ ?_ ?_ ?_ ?_ ?_) ?_; (iterate 7 (focus (first | rfl | (simp [LPXB, *, SIMB, hdN, injB, fB, a1k, a1d, a1i, hdN, a0p, a0k, a1m, a0n, a4z, a2f]; done)))); (focus (dsimp only; omega)))
  | ((with_reducible refine cgH ?_); refine a4t (d1r (nm := [1, 95]) ?_) ?_; (focus (simp [a1k, a1i, a1v, fB]; done)))
  | ((with_reducible refine mdH ?_); refine d3v (by kernel_rfl) (fun d hd => ?_) (d1v (l := [1, 95]) (k := lf) (ks := ks) (T := 141) ?_ ?_ hks.1 hkb hkl) ?_; (focus (cases hd; exact lbR rfl)); (focus (simp [a1k, a1i, a1p]; done)); (focus (exact hlf _ _ (by rfl))); (rintro r' H' ⟨rfl, ss, hpm, rfl⟩); have hsl : ss.length <= 1000000000 := (by rw [hpm.length_eq]; exact hkl))
  | ((with_reducible refine cgH ?_); refine a7a rfl (d1j _ hB (by decide) hZ htZ ?_ ?_) ?_; (focus rfl); (focus (first | rfl | (simp [ninL, ninO, a2u, nins, nin, a0e, a0m, a0c, a0v, a0a, a0b, a1j, mapO, a1o, a0p, a0k, hdN, *]; done))))
  | ((with_reducible refine lfH ?_); refine a6j (j := 1) (hB _ _ _ _ hy hZ) rfl ⟨rfl, Z, h, rfl, hZ, hT.congr (f7v hpm)⟩ trivial)
  | with_reducible first | refine f0c ?_ | refine b3r ?_ | refine stp ?_ | refine stpK ?_; intro K hK | refine stpC ?_; intro T E hT hE | refine stp2 ?_ ?_ <;> intro h | refine a0g rfl ?_ | refine a0j rfl (lbR rfl) a0i ?_ | refine a0j rfl (lbR rfl) (a0h (by simp [HPXB, a1i, fB, ext, upd, *])) ?_ | refine a1g (by decide) (by kernel_rfl) ?_ | refine a0o (by decide) ?_ | refine Kont.go hK ?_; clear hK K | refine KT.go hT ?_; clear hT hE T E | refine KT.go hE ?_; clear hT hE T E
  | simp [*, -List.all_flatten, -List.all_eq_true, DEFM, fB, a1k, a1d, a1i, hdN, a0p, a0k, a1m, a0n, a4z, a2f, e2l, f5l, e9x, hput, a2p, MG_t, MG_f]
theorem f4g {p : Pg} (hp : VOk p) : CT p false 106 := fun B y b t lf ks hy ht hB hk hl => f6c hp hy ht hB hk hl
theorem f6i {p : Pg} (hp : VOk p) {B : Heap} {Y : Pts} (hy : Shp p Y) (hBM : BsM p 5 B) (hBN : BsN p 5 B) (h88 : B [88] = none) : FCr Tryz.prog Gl 105 [.ptr [81] 8 0 0] (HP [] B (MN p Y)) (OutA p B Y) := by
 have hsv := a2t hp
 have fB : ∀ r, B (5 :: r) = none := fun r => (hBN _ _ hy hy).fb 5 r (by decide)
 have h81 : ∀ (L : List (FM.Loc × FO)) (Z : Pts) (b' : Bool), inH (HP L B (MF p Z b')) [81] := fun L Z b' => a2n a2z
 have h81n : ∀ (L : List (FM.Loc × FO)) (Z : Pts), inH (HP L B (MN p Z)) [81] := fun L Z => a2n b2u
 have h88i : ∀ (L : List (FM.Loc × FO)) (Z : Pts) (b' : Bool), inH (HP L B (MF p Z b')) [88] := fun L Z b' => a6w
 refine a3d (res := [.tmp 2]) 4 8 [] (fun d ix => 5 :: d :: ix) (fn := Tryz.f105) (by kernel_rfl) (by rfl) (by rfl) (by rfl) (by simp) (by decide) ?_
 repeat' first
  | ((with_reducible refine a1f (id := 2) fun K hK => ?_); refine f0d (gk5i (vs1 := [.ptr [81] 8 0 0, .undef, .bool false, .ptr [88] 1 0 0]) (tm1 := []) (ix1 := []) (L1 := [([88], .cells 4 1 [[.bool false]])]) [([88], some [5, 3])] f9y (by rfl) ?_ ?_ (hBN _ _ hy hy).clo (hBN _ _ hy hy).lent ?_ ?_ ?_) ?_; (focus (intro n hn; simp at hn; (try dsimp only); rcases hn with rfl | rfl <;> simp [a0w, a6r, f5g, fB, h88])); (focus (intro q hq; simp at hq; rcases hq with rfl; simp [a0w, a6r, fB])); (focus (simp [*, SIMB, fB, a1k, a1d, a1i, hdN, a0p, a0k, a1m, a6r, a1w, a1m, h81, h88i]; done)); (focus (first | trivial | (simp [simT]; done))); (focus (simp [*, SIMB, fB, a1k, a1d, a1i, hdN, a0p, a0k, a1m, a6r, a1w, a1m, h81, h88i]; done)); refine a0t 2 ?_)
  | ((with_reducible refine mdH ?_); refine a2l (L := []) (by kernel_rfl) (fun d hd => ?_) rfl (c1o hp (f4g hp) (by kernel_rfl) hy (hBM.call (b := false) 4 (by decide) hy (by rfl) trivial)) ?_; (focus (cases hd; exact lbR rfl)); (rintro r' H' ⟨rfl, Z2, g2, rfl, hZ2, hT⟩))
  | ((with_reducible refine lfH ?_); exact ⟨HP [] B (MN p Z2), ⟨Z2, g2, rfl, rfl, hZ2, hT⟩, e7s h88, (hBN _ _ hy hZ2).lent, trivial, (hBN _ _ hy hZ2).clo⟩)
  | with_reducible first | refine a4e ?_ | refine a6g ?_ | refine stp ?_ | refine stpK ?_; intro K hK | refine stpC ?_; intro T E hT hE | refine stp2 ?_ ?_ <;> intro h | refine a0g rfl ?_ | refine a0j rfl (lbR rfl) a0i ?_ | refine a0j rfl (lbR rfl) (a0h (by simp [HPXB, a6r, a1i, fB, ext, upd, *])) ?_ | refine a1g (by decide) (by kernel_rfl) ?_ | refine a0o (by decide) ?_ | refine Kont.go hK ?_; clear hK K | refine KT.go hT ?_; clear hT hE T E | refine KT.go hE ?_; clear hT hE T E
  | simp [*, -List.all_flatten, -List.all_eq_true, DEFM, fB, a1k, a1d, a1i, hdN, a0p, a0k, a1m, a6r, a1w, a1m, h81, h88i, e2l, a2p, MG_t, MG_f]
theorem an1M {p : Pg} (hp : VOk p) {L : List (FM.Loc × FO)} {B : Heap} {Y : Pts} {j : Nat} (hj : 5 < j) (hy : Shp p Y) (hBM : BsM p j B) (hBN : BsN p j B) (h88 : B [88] = none) (h88L : ∀ q ∈ L, q.1 ≠ [88]) (hL : hdN j (L.map Prod.fst) = true) (hn : ninL (inH (HP L B (MN p Y))) L) (hn' : ninL (inH (HP L B (MF p Y false))) L) :
 FCr Tryz.prog Gl 105 [.ptr [81] 8 0 0] (HP [] (updL L B) (MN p Y)) (OutA p (updL L B) Y) := f6i hp hy (hBM.call 5 hj hy hL hn') (hBN.call 5 hj hy hL hn) (by rw [a5h h88L]; exact h88)
theorem e5b {p : Pg} (hp : VOk p) {B : Heap} {Y : Pts} (hc : Crd p Y) (hBM : BsM p 6 B) (hBN : BsN p 6 B) (h88 : B [88] = none) : FCr Tryz.prog Gl 104 [.ptr [81] 8 0 0, .clo 105 [] []] (HP [] B (MN p Y)) (OutU p B) := by
 have hy := hc.shp
 have fB : ∀ r, B (6 :: r) = none := fun r => (hBN _ _ hy hy).fb 6 r (by decide)
 have h81 : ∀ (L : List (FM.Loc × FO)) (Z : Pts), inH (HP L B (MN p Z)) [81] := fun L Z => a2n b2u
 refine a3d (res := []) 4 7 [] (fun d ix => 6 :: d :: ix) (fn := Tryz.f104) (by kernel_rfl) (by rfl) (by rfl) (by rfl) (by simp) (by decide) ?_
 repeat' first
  | ((with_reducible refine a1f (id := 0) fun K hK => ?_); refine a0t 2 ?_)
  | ((with_reducible refine a1a ?_); refine a1q (σ := {x : Pts // Crd p x}) (fun y => []) [] (fun y => []) [] (fun y => []) (fun y => MN p y.1) (fun y => muR p y.1) ⟨Y, hc⟩ (gk3i (j := 6) [] (hBN _ _ hy hy) ?_ ?_ ?_ ?_ ?_ ?_ ?_) ?_; (iterate 7 (focus (first | rfl | (simp [LPXB, *, SIMB, hdN, injB, fB, a1k, a1d, a1i, hdN, a0p, a0k, a1m, a6r, a1w, a1m, h81]; done)))); rintro ⟨Z, hZc⟩; simp only [lpS, LPXB]; (try dsimp only at hZc); have hZ := hZc.shp)
  | ((with_reducible refine mdH ?_); refine a2l (L := []) (by kernel_rfl) (fun d hd => ?_) rfl (an1M hp (by decide) hZ hBM hBN h88 (fun _ h => by cases h) (by rfl) trivial trivial) ?_; (focus (cases hd; exact lbR rfl)); (rintro r' H' ⟨Z2, g2, rfl, rfl, hZ2, hT⟩); cases g2)
  | ((with_reducible refine a0q ?_); refine a1b (⟨Z2, hZc.step hZ2 hT⟩) (gk3i (j := 6) [] (hBN _ _ hy hZ2) ?_ ?_ ?_ ?_ ?_ ?_ ?_) ?_; (iterate 7 (focus (first | rfl | (simp [LPXB, *, SIMB, hdN, injB, fB, a1k, a1d, a1i, hdN, a0p, a0k, a1m, a6r, a1w, a1m, h81]; done)))); (focus (dsimp only; exact Crd.mu hp hZ2 hT)))
  | ((with_reducible refine lfH ?_); refine a6j (j := 6) (hBN _ _ hy hZ2) rfl ⟨rfl, Z2, rfl, hZ2, ?_⟩ trivial; obtain ⟨he, hl⟩ := hZc.fin hp hT; rw [he]; exact hl)
  | with_reducible first | refine a4e ?_ | refine a6g ?_ | refine stp ?_ | refine stpK ?_; intro K hK | refine stpC ?_; intro T E hT hE | refine stp2 ?_ ?_ <;> intro h | refine a0g rfl ?_ | refine a0j rfl (lbR rfl) a0i ?_ | refine a0j rfl (lbR rfl) (a0h (by simp [HPXB, a6r, fB, ext, upd, *])) ?_ | refine a1g (by decide) (by kernel_rfl) ?_ | refine a0o (by decide) ?_ | refine Kont.go hK ?_; clear hK K | refine KT.go hT ?_; clear hT hE T E | refine KT.go hE ?_; clear hT hE T E
  | simp [*, -List.all_flatten, -List.all_eq_true, DEFM, fB, a1k, a1d, a1i, hdN, a0p, a0k, a1m, a6r, a1w, a1m, h81, a2p, MG_t, MG_f]
end Go.Je
namespace Go.Je
open Go Go.FM Go.Gv Go.Proofs
set_option maxRecDepth 100000
set_option maxHeartbeats 40000000
open Classical in
noncomputable def lfpP (p : Pg) : Pts := if h : a2c p = true /\ ∃ x, Least p x then h.2.choose else ⟨[], [], []⟩
theorem e3h {p : Pg} {x : Pts} (hv : a2c p = true) (h : Least p x) : lfpP p = x := by
 have hh : a2c p = true /\ ∃ x, Least p x := ⟨hv, x, h⟩
 unfold lfpP
 rw [dif_pos hh]
 exact hh.2.choose_spec.unique h
theorem f2q {p : Pg} (hv : a2c p = false) : lfpP p = ⟨[], [], []⟩ := by
 unfold lfpP
 rw [dif_neg fun h => by rw [hv] at h; cases h.1]
theorem crd0 {p : Pg} (hp : VOk p) : Crd p (a4m p) := ⟨(a5m hp).shp, fun z _ e => ⟨e, fun t o ho => by
 have h := (Gv.Ld.zero hp (a4m p)).at' t
 rw [h] at ho
 cases t <;> simp [ldd] at ho⟩⟩
theorem f0o {p : Pg} (hp : VOk p) {L : List (FM.Loc × FO)} (hL : hdN 7 (L.map Prod.fst) = true) (hn : ninL (inH (HP L noH (MN p (a4m p)))) L) (hn' : ninL (inH (HP L noH (MF p (a4m p) false))) L) :
 FCr Tryz.prog Gl 104 [.ptr [81] 8 0 0, .clo 105 [] []] (HP [] (updL L noH) (MN p (a4m p))) (OutU p (updL L noH)) := by
 refine e5b hp (crd0 hp) ((bsM0 p 7 (by decide)).call (b := false) 6 (by decide) (a5m hp).shp hL hn') ((bsN0 p 7 (by decide)).call 6 (by decide) (a5m hp).shp hL hn) ?_
 rw [a5h fun q hq e => ?_]
 . rfl
 . obtain ⟨r, hr⟩ := a7m hL q.1 (List.mem_map_of_mem hq)
   rw [e] at hr; simp at hr
theorem g0a {L : List (FM.Loc × FO)} {B : Heap} {p : Pg} {y : Pts} {f i : Nat} (h : f < y.regs.length) (h' : i < y.regs[f].length) : HP L B (MN p y) [85, f, i] = some (mapO y.regs[f][i]) := by
 have := e4k (L := L) (B := B) (p := p) (y := y) (t := .r f i) (f0z h h')
 rw [show getS y (.r f i) = y.regs[f][i] from e6c h h'] at this
 exact this
theorem f9z {L : List (FM.Loc × FO)} {B : Heap} {p : Pg} {y : Pts} {o : Nat} (h : o < y.cells.length) : HP L B (MN p y) [86, o] = some (mapO y.cells[o]) := by
 have := e4k (L := L) (B := B) (p := p) (y := y) (t := .c o) h
 rw [show getS y (.c o) = y.cells[o] from e8q h] at this
 exact this
theorem c7c (R : List (List Int)) {i : Nat} (h : i < R.length) : lays ((R.map Gv.srt).take (i + 1)) = lays ((R.map Gv.srt).take i) ++ [[.list 1 (ints (Gv.srt R[i]))]] := by
 have := d4g (R.map Gv.srt) (i := i) (by simpa using h)
 simpa using this
theorem e7h (R : List (List (List Int))) {i : Nat} (h : i < R.length) : lls ((R.map (·.map Gv.srt)).take (i + 1)) = lls ((R.map (·.map Gv.srt)).take i) ++ [[.list 1 (lays (R[i].map Gv.srt))]] := by
 rw [d1g (R := R.map (·.map Gv.srt)) (i := i) (by simpa using h), b8l]
 simp [d3z, a9e]
theorem c9r {p : Pg} (hb : PgB p) (hv : a2c p = false) : PC Tryz.prog Gl 58 [.agg [.list 4 (fns p.funcs), .list 2 (gbs p.globals), .list 1 (lays p.layouts), .int .i64 p.main]] (.agg [.nils, .nils, .nils]) := by
 have hval : PC Tryz.prog Gl 39 [.agg [.list 4 (fns p.funcs), .list 2 (gbs p.globals), .list 1 (lays p.layouts), .int .i64 p.main]] (.bool (a2c p)) := by rw [<- b9d]; exact c19 p hb.f hb.g hb.l hb.ll hb.c
 refine a3s (res := [.cell 2 49]) 12 73 [30, 29, 28, 36, 35, 34, 59, 58, 57] (fun d ix => 7 :: d :: ix) (fn := Tryz.f58) (by kernel_rfl) (by rfl) (by rfl) (by rfl) (by simp) (by decide) ?_
 repeat' first
  | with_reducible first | refine stp ?_ | refine stpK ?_; intro K hK | refine stpC ?_; intro T E hT hE | refine stp2 ?_ ?_ <;> intro h | refine a0g rfl ?_ | refine a1e hval (by simp [nls, nl, *, NLXB]) ?_ | refine hpc hval (by simp [nls, nl, *, NLXB]) ?_ | refine a0j rfl (lbR rfl) a0i ?_ | refine a0j rfl (lbR rfl) (a0h (by simp [HPXB, a6r, ext, upd, *])) ?_ | refine a1g (by decide) (by kernel_rfl) ?_ | refine a0o (by decide) ?_ | refine Kont.go hK ?_; clear hK K | refine KT.go hT ?_; clear hT hE T E | refine KT.go hE ?_; clear hT hE T E
  | simp [*, -List.all_flatten, -List.all_eq_true, DEFM, asR, a1w]
 exact ⟨_, _, ⟨rfl, rfl⟩, .inl rfl, _, _, rfl, .inl rfl, _, rfl, .inl rfl⟩
end Go.Je
namespace Go.Je
open Go Go.FM Go.Gv Go.Proofs
set_option maxRecDepth 100000
set_option maxHeartbeats 40000000
theorem c9q {p : Pg} (hb : PgB p) (hv : a2c p = true) : PC Tryz.prog Gl 58 [.agg [.list 4 (fns p.funcs), .list 2 (gbs p.globals), .list 1 (lays p.layouts), .int .i64 p.main]] (.agg [.list 2 (sits (lfpP p).sites), .list 1 (lls (lfpP p).regs), .list 1 (lays (lfpP p).cells)]) := by
 have hval : PC Tryz.prog Gl 39 [.agg [.list 4 (fns p.funcs), .list 2 (gbs p.globals), .list 1 (lays p.layouts), .int .i64 p.main]] (.bool (a2c p)) := by rw [<- b9d]; exact c19 p hb.f hb.g hb.l hb.ll hb.c
 have hp := vOk hv
 have hsv := a2t hp
 have hnf := hp.nf
 have hE := (a5m hp).shp
 have h81 : ∀ (L : List (FM.Loc × FO)) (Y : Pts), inH (HP L noH (MN p Y)) [81] := fun L Y => a2n b2u
 have h83 : ∀ (L : List (FM.Loc × FO)) (Y : Pts) (f : Nat), f < Y.regs.length -> inH (HP L noH (MN p Y)) [83, f] := fun L Y f h => a2n (b7j h)
 have h84 : ∀ (L : List (FM.Loc × FO)) (Y : Pts), inH (HP L noH (MN p Y)) [84] := fun L Y => a2n b7i
 have h82 : ∀ (L : List (FM.Loc × FO)) (Y : Pts), inH (HP L noH (MN p Y)) [82] := fun L Y => a2n b7k
 refine a3s (res := [.cell 2 49]) 12 73 [30, 29, 28, 36, 35, 34, 59, 58, 57] (fun d ix => 7 :: d :: ix) (fn := Tryz.f58) (by kernel_rfl) (by rfl) (by rfl) (by rfl) (by simp) (by decide) ?_
 repeat' first
  | ((with_reducible refine cgH ?_); refine a7a rfl (e5c hp (BsS.of (by rfl) ?_)) ?_; (focus (first | rfl | (simp [ninL, ninO, a2u, nins, nin, a0e, a0m, a0c, a0v, a0a, a0b, a1j, mapO, a1o, a1m, a0p, a0k, hdN, *]; done))))
  | ((with_reducible refine a1f (id := 4) fun K hK => ?_); refine a0t 1 ?_)
  | ((with_reducible refine a1a ?_); refine a1q (σ := {f : Nat // f <= p.funcs.length}) (fun y => [(6, .undef), (7, .undef), (9, .undef)]) [29, 28] (fun y => [(30, .int .i64 (y.1 : Int))]) [[7, 1001], [7, 95]] (fun y => [([7, 4], .cells 49 3 [[.list 2 (sits (a0l p)), .sl [7, 1000] 1 0 y.1, .nils]]), ([7, 1000], .cells 24 1 (lls ((Z.regs.map (·.map Gv.srt)).take y.1)))]) (fun y => MN p Z) (fun y => p.funcs.length - y.1) ⟨0, by simp⟩ (gk3i (j := 7) [([7, 1000], none)] (bsMN hZ 7 (by decide)) ?_ ?_ ?_ ?_ ?_ ?_ ?_) ?_; (iterate 7 (focus (first | rfl | (simp [LPXB, *, SIMB, hdN, injB, a1k, a1d, a1i, hdN, a0p, a0k, a1m, a6r, a1w, b2u, b7k, b7j, b7i, a0u, a0r, a0s, a1y, a1z, a2a, anR, a2p, MG_t, MG_f, a3i, a1n, a0n, a0a, a0c, a1j, List.length_take, List.length_map, Nat.min_eq_left, a5g, a6o, a2g, asR, a3w, a9e, a4x, a6d, List.take_take, Nat.min_self, List.take_length, a1u, a0v, a5f, h81, List.take_zero, d4a]; done)))); rintro ⟨f, hf⟩; simp only [lpS, LPXB]; (try dsimp only at hf); rcases a0z hf with hlt | ⟨hlt, he⟩; rotate_left; subst f; have hfa : (Z.regs.map (·.map Gv.srt)).take p.funcs.length = (Z.regs.map (·.map Gv.srt)) := tL_ (by rw [List.length_map]; omega); rotate_left; have wf := wli hlt (by omega); have hfY : f < Z.regs.length := (by omega); have hR1 : f < (rowR Z.regs).length := (by simpa [a0u] using hfY); have hYl := hZ.fn f hfY hlt; have hrr := hp.regs (gm_ hlt); have hn64 : (Z.regs[f]'hfY).length <= 64 := (by have := hrr.r64; omega); have hs := szn (n := f + 1) (k := 24) (by omega) (by decide); have hs2 : f + 1 <= 4611686018427387904 := (by omega); have hs3 : f <= 4611686018427387903 := (by omega); have hfm : min f Z.regs.length = f := (by omega); have els := e7h Z.regs hfY; generalize hnr : (Z.regs[f]'hfY).length = nr at hn64; clear hYl)
  | ((with_reducible refine a1a ?_); refine a1q (σ := {r : Nat // r <= nr}) (fun y => [(7, .sl [7, 1001] 1 0 y.1), (9, .undef)]) [35, 34, 30, 29, 28] (fun y => [(36, .int .i64 (y.1 : Int))]) [[7, 95]] (fun y => [([7, 1001], .cells 36 1 (lays (((Z.regs[f]'hfY).map Gv.srt).take y.1)))]) (fun y => MN p Z) (fun y => nr - y.1) ⟨0, by simp⟩ (gk3i (j := 7) [([7, 1001], none)] (bsMN hZ 7 (by decide)) ?_ ?_ ?_ ?_ ?_ ?_ ?_) ?_; (iterate 7 (focus (first | rfl | (simp [LPXB, *, SIMB, hdN, injB, a1k, a1d, a1i, hdN, a0p, a0k, a1m, a6r, a1w, b2u, b7k, b7j, b7i, a0u, a0r, a0s, a1y, a1z, a2a, anR, a2p, MG_t, MG_f, a3i, a1n, a0n, a0a, a0c, a1j, List.length_take, List.length_map, Nat.min_eq_left, a5g, a6o, a2g, asR, a3w, a9e, a4x, a6d, List.take_take, Nat.min_self, List.take_length, a1u, a0v, a5f, h81, h83, List.take_zero, b0m]; done)))); rintro ⟨r, hr⟩; simp only [lpS, LPXB]; (try dsimp only at hr); rcases a0z hr with hlr | ⟨hlr, he⟩; rotate_left; subst r; have hfull : (((Z.regs[f]'hfY).map Gv.srt)).take nr = ((Z.regs[f]'hfY).map Gv.srt) := tL_ (by rw [List.length_map]; omega); rotate_left; have wr := wli hlr (by omega); have hrZ : r < (Z.regs[f]'hfY).length := (by omega); have hM2 : r < (rowM f (Z.regs[f]'hfY)).length := (by simpa [a0r] using hrZ); have hok := hZ.rs f hfY _ (gm_ hrZ); have hsl : (Gv.srt ((Z.regs[f]'hfY)[r]'hrZ)).length <= 64001 := (by rw [Gv.a7h]; have := b1n hok; omega); have hs := szn (n := r + 1) (k := 24) (by omega) (by decide); have hs2 : r + 1 <= 4611686018427387904 := (by omega); have hs3 : r <= 4611686018427387903 := (by omega); have hrm : min r (Z.regs[f]'hfY).length = r := (by omega); have ely := c7c (Z.regs[f]'hfY) hrZ)
  | ((with_reducible refine cgH ?_); refine a4t (d1r (nm := [7, 95]) ?_) ?_; (focus (simp [a1k, a6r, a1v, a1p, a1w]; done)))
  | ((with_reducible refine cgH ?_); refine a4t (c5z (l := [7, 95]) (k := [85, f, r]) (T := 141) ?_ (g0a hfY hrZ) hok.1 (fun x hx => by have := hok.2 x hx; omega) (by have := b1n hok; omega)) ?_; (focus (simp [a1k, a6r, a1v, a1p, a1w]; done)))
  | ((with_reducible refine a0q ?_); refine a1b (⟨r + 1, by omega⟩) (gk3i (j := 7) [] (bsMN hZ 7 (by decide)) ?_ ?_ ?_ ?_ ?_ ?_ ?_) ?_; (iterate 7 (focus (first | rfl | (simp [LPXB, *, SIMB, hdN, injB, a1k, a1d, a1i, hdN, a0p, a0k, a1m, a6r, a1w, b2u, b7k, b7j, b7i, a0u, a0r, a0s, a1y, a1z, a2a, anR, a2p, MG_t, MG_f, a3i, a1n, a0n, a0a, a0c, a1j, List.length_take, List.length_map, Nat.min_eq_left, a5g, a6o, a2g, asR, a3w, a9e, a4x, a6d, List.take_take, Nat.min_self, List.take_length, a1u, a0v, a5f, h81, h83, ely]; done)))); (focus (dsimp only; omega)))
  | ((with_reducible refine a0q ?_); refine a1b ⟨f + 1, by omega⟩ (Gk.trans (gk3i (j := 7) [([7, 1000], some [7, 51])] (bsMN hZ 7 (by decide)) ?_ ?_ ?_ ?_ ?_ ?_ ?_) (f3g (j := 7) [7, 1001] 36 1 (lays ((Z.regs[f]'hfY).map Gv.srt)) (bsMN hZ 7 (by decide)) (fun _ h => h.elim) (by rfl) (by simp [*, SIMB, a1k, a1d, a1i, hdN, a0p, a0k, a1m, a6r, a1w, b2u, b7k, b7j, b7i, a0u, a0r, a0s, a1y, a1z, a2a, anR, a2p, MG_t, MG_f, a3i, a1n, a0n, a0a, a0c, a1j, List.length_take, List.length_map, Nat.min_eq_left, a5g, a6o, a2g, asR, a3w, a9e, a4x, a6d, List.take_take, Nat.min_self, List.take_length, a1u, a0v, a5f]) (by simp [*, SIMB, a1k, a1d, a1i, hdN, a0p, a0k, a1m, a6r, a1w, b2u, b7k, b7j, b7i, a0u, a0r, a0s, a1y, a1z, a2a, anR, a2p, MG_t, MG_f, a3i, a1n, a0n, a0a, a0c, a1j, List.length_take, List.length_map, Nat.min_eq_left, a5g, a6o, a2g, asR, a3w, a9e, a4x, a6d, List.take_take, Nat.min_self, List.take_length, a1u, a0v, a5f]))) ?_; (iterate 7 (focus (first | rfl | (simp [LPXB, *, SIMB, hdN, injB, a1k, a1d, a1i, hdN, a0p, a0k, a1m, a6r, a1w, b2u, b7k, b7j, b7i, a0u, a0r, a0s, a1y, a1z, a2a, anR, a2p, MG_t, MG_f, a3i, a1n, a0n, a0a, a0c, a1j, List.length_take, List.length_map, Nat.min_eq_left, a5g, a6o, a2g, asR, a3w, a9e, a4x, a6d, List.take_take, Nat.min_self, List.take_length, a1u, a0v, a5f, h81, els, fz, fzs, fzss, fzO, fzT, fze, a7n, b3f, b1a, c0p, b4z]; done)))); (focus (dsimp only; omega)))
  | ((with_reducible refine a1a ?_); refine a1q (σ := {i : Nat // i <= (a0l p).length}) (fun y => [(11, .undef)]) [58, 57] (fun y => [(59, .int .i64 (y.1 : Int))]) [] (fun y => [([7, 4], .cells 49 3 [[.list 2 (sits (a0l p)), .sl [7, 1000] 1 0 p.funcs.length, .sl [7, 1002] 1 0 y.1]]), ([7, 1002], .cells 36 1 (lays ((Z.cells.map Gv.srt).take y.1)))]) (fun y => MN p Z) (fun y => (a0l p).length - y.1) ⟨0, by simp⟩ (gk3i (j := 7) [([7, 1002], none)] (bsMN hZ 7 (by decide)) ?_ ?_ ?_ ?_ ?_ ?_ ?_) ?_; (iterate 7 (focus (first | rfl | (simp [LPXB, *, SIMB, hdN, injB, a1k, a1d, a1i, hdN, a0p, a0k, a1m, a6r, a1w, b2u, b7k, b7j, b7i, a0u, a0r, a0s, a1y, a1z, a2a, anR, a2p, MG_t, MG_f, a3i, a1n, a0n, a0a, a0c, a1j, List.length_take, List.length_map, Nat.min_eq_left, a5g, a6o, a2g, asR, a3w, a9e, a4x, a6d, List.take_take, Nat.min_self, List.take_length, a1u, a0v, a5f, h81, h84, hfa, List.take_zero, b0m]; done)))); rintro ⟨i, hi⟩; simp only [lpS, LPXB]; (try dsimp only at hi); rcases a0z hi with hli | ⟨hli, he⟩; rotate_left; subst i; have hca : (Z.cells.map Gv.srt).take (a0l p).length = (Z.cells.map Gv.srt) := tL_ (by rw [List.length_map]; omega); rotate_left; have wi := wli hli (by omega); have hiZ : i < Z.cells.length := (by omega); have hC2 : i < (rowC Z.cells).length := (by simpa [a0s] using hiZ); have hok := hZ.cs _ (gm_ hiZ); have hsl : (Gv.srt (Z.cells[i]'hiZ)).length <= 64001 := (by rw [Gv.a7h]; have := b1n hok; omega); have hs := szn (n := i + 1) (k := 24) (by omega) (by decide); have hs2 : i + 1 <= 4611686018427387904 := (by omega); have hs3 : i <= 4611686018427387903 := (by omega); have him : min i Z.cells.length = i := (by omega); have ely := c7c Z.cells hiZ)
  | (with_reducible refine d7k (id := 20) [[7, 1002]] 8 a0y (by kernel_rfl) fun K hK => ?_)
  | (refine d7l (j := 5) (e := 36) (x := .tmp 64) (y := .tmp 68) (t := 24) (tx := 24) (Aj := upd noH [7, 68] (.cells 36 1 [[.list 1 (ints (Gv.srt (Z.cells[i]'hiZ)))]])) [7, 1002] [7, 68] (.cells 36 1 (lays ((Z.cells.map Gv.srt).take i))) (.cells 36 1 [[.list 1 (ints (Gv.srt (Z.cells[i]'hiZ)))]]) 1 (lays ((Z.cells.map Gv.srt).take i) ++ [[.list 1 (ints (Gv.srt (Z.cells[i]'hiZ)))]]) (.sl [7, 69] 1 0 (i + 1)) (by decide) (by kernel_rfl) ?_ (by simp [a2d]) rfl (lbR rfl) ?_ (by kernel_rfl) ?_ ?_ ?_ (by decide) ?_ ?_ ?_ ?_; (focus (exact rfl)); (focus (first | rfl | simp)); (iterate 5 (focus (first | rfl | simp [*, SIMB, rmvs, rmv, a5p]))); (focus (simp [*, -List.all_flatten, -List.all_eq_true, DEFM, a1k, a1d, a1i, hdN, a0p, a0k, a1m, a6r, a1w, b2u, b7k, b7j, b7i, a0u, a0r, a0s, a1y, a1z, a2a, anR, a2p, MG_t, MG_f, a3i, a1n, a0n, a0a, a0c, a1j, List.length_take, List.length_map, Nat.min_eq_left, a5g, a6o, a2g, asR, a3w, a9e, a4x, a6d, List.take_take, Nat.min_self, List.take_length, a1u, a0v, a5f, rmvs, rmv, a5p, FV.cellV])))
  | ((with_reducible refine e9q (k := 4) 3 [7, 95] (.cells 141 1 [[.mp [86, i]]]) (by decide) (by kernel_rfl) ?_ (by kernel_rfl) ?_ ?_); (focus rfl); (focus (simp; done)))
  | ((with_reducible refine hclH ?_); refine hfc0 (fun H2 hs => c5z (l := [7, 95]) (k := [86, i]) (T := 141) (hs _ _ ?_) (hs _ _ ?_) hok.1 (fun x hx => by have := hok.2 x hx; omega) (by have := b1n hok; omega)) ?_; (focus (simp [upd]; done)); (focus (simp [upd, rmvs, rmv, f9z hiZ]; done)))
  | ((with_reducible refine hclH ?_); refine hfc1 [7, 95] (.cells 141 1 [[.mp [86, i]]]) (fun H2 _ h0 => d1r h0) ?_)
  | ((with_reducible refine a0q ?_); refine a1b (⟨i + 1, by omega⟩) (gk3i (j := 7) [([7, 1002], some [7, 69])] (bsMN hZ 7 (by decide)) ?_ ?_ ?_ ?_ ?_ ?_ ?_) ?_; (iterate 7 (focus (first | rfl | (simp [LPXB, *, SIMB, hdN, injB, a1k, a1d, a1i, hdN, a0p, a0k, a1m, a6r, a1w, b2u, b7k, b7j, b7i, a0u, a0r, a0s, a1y, a1z, a2a, anR, a2p, MG_t, MG_f, a3i, a1n, a0n, a0a, a0c, a1j, List.length_take, List.length_map, Nat.min_eq_left, a5g, a6o, a2g, asR, a3w, a9e, a4x, a6d, List.take_take, Nat.min_self, List.take_length, a1u, a0v, a5f, h81, h84, ely]; done)))); (focus (dsimp only; omega)))
  | ((with_reducible refine mdH ?_); refine a2l (by kernel_rfl) (fun d hd => ?_) rfl (f0o hp ?_ ?_ ?_) ?_; (focus (cases hd; exact lbR rfl)); (focus rfl); (iterate 2 (focus (first | rfl | (simp [ninL, ninO, a2u, nins, nin, a0e, a0m, a0c, a0v, a0a, a0b, a1j, mapO, a1o, a1m, a0p, a0k, hdN, *]; done)))); (rintro r' H' ⟨rfl, Z, rfl, hZ, hLs⟩); have hlf := e3h hv hLs; have hZr := hZ.rn; have hZc := hZ.cn; have hS1 : (a7u Z).sites = a0l p := hZ.sites; have hS2 : (a7u Z).regs = (Z.regs.map (·.map Gv.srt)) := rfl; have hS3 : (a7u Z).cells = Z.cells.map Gv.srt := rfl)
  | with_reducible first | refine a4e ?_ | refine a6g ?_ | refine stp ?_ | refine stpK ?_; intro K hK | refine stpC ?_; intro T E hT hE | refine stp2 ?_ ?_ <;> intro h | refine a0g rfl ?_ | refine a1e hval (by simp [nls, nl, *, NLXB]) ?_ | refine hpc hval (by simp [nls, nl, *, NLXB]) ?_ | refine a0j rfl (lbR rfl) a0i ?_ | refine a0j rfl (lbR rfl) (a0h (by simp [HPXB, a6r, ext, upd, *])) ?_ | refine a1g (by decide) (by kernel_rfl) ?_ | refine a0o (by decide) ?_ | refine Kont.go hK ?_; clear hK K | refine KT.go hT ?_; clear hT hE T E | refine KT.go hE ?_; clear hT hE T E
  | simp [*, -List.all_flatten, -List.all_eq_true, DEFM, a1k, a1d, a1i, hdN, a0p, a0k, a1m, a6r, a1w, b2u, b7k, b7j, b7i, a0u, a0r, a0s, a1y, a1z, a2a, anR, a2p, MG_t, MG_f, a3i, a1n, a0n, a0a, a0c, a1j, List.length_take, List.length_map, Nat.min_eq_left, a5g, a6o, a2g, asR, a3w, a9e, a4x, a6d, List.take_take, Nat.min_self, List.take_length, a1u, a0v, a5f, rmvs, rmv, a5p, FV.cellV]
def b8o (p : Pg) : Bool := decide (150 < grN p p.funcs.length)
theorem d1k (p : Pg) (hf : p.funcs.length <= 2000000) (hfc : ∀ x ∈ p.funcs, x.code.length <= 2000000) : PC Tryz.prog Gl 12 [.agg [.list 4 (fns p.funcs), .list 2 (gbs p.globals), .list 1 (lays p.layouts), .int .i64 p.main]] (.bool (b8o p)) := by
 have hg0 : IntKind.wrap .i64 ((p.globals.length : Int) + (p.layouts.length : Int)) = grN p 0 := rfl
 refine a3s (res := [.tmp 2]) 5 40 [] (fun d ix => 0 :: d :: ix) (fn := Tryz.f12) (by kernel_rfl) (by rfl) (by rfl) (by rfl) (by simp) (by decide) ?_
 repeat' first
  | ((with_reducible refine a1a ?_); refine a1q (σ := {i : Nat // i <= p.funcs.length}) (fun y => [(3, .int .i64 (grN p y.1)), (4, .int .i64 (y.1 : Int))]) [] (fun y => []) [] (fun y => []) (fun y => noH) (fun y => p.funcs.length - y.1) ⟨0, by simp⟩ (gk3 (j := 0) [] (Bs.pc _) ?_ ?_ ?_ ?_ ?_ ?_ ?_) ?_; (iterate 7 (focus (first | rfl | (simp [LPXB, *, SIMB, hdN, injB]; done)))); rintro ⟨i, hi⟩; simp only [lpS, LPXB]; (try dsimp only at hi); rcases a0z hi with hlt | ⟨hlt, rfl⟩; have wi := wli hlt (Nat.le_trans hf (by decide)); have e := f7y hlt; have hfc' := hfc _ (gm_ hlt); have hwl := wlen (p.funcs[i]'hlt).code.length (by omega))
  | ((with_reducible refine a0q ?_); refine a1b (⟨i + 1, by omega⟩) (gk3 (j := 0) [] (Bs.pc _) ?_ ?_ ?_ ?_ ?_ ?_ ?_) ?_; (iterate 7 (focus (first | rfl | (simp [LPXB, *, SIMB, hdN, injB]; done)))); (focus (dsimp only; omega)))
  | with_reducible first | refine a2j (id := 5) 19 a0y (by kernel_rfl) fun K hK => ?_ | refine stp ?_ | refine stpK ?_; intro K hK | refine stpC ?_; intro T E hT hE | refine stp2 ?_ ?_ <;> intro h | refine a0g rfl ?_ | refine a0j rfl (lbR rfl) a0i ?_ | refine a0j rfl (lbR rfl) (a0h (by simp [HPXB, ext, upd, *])) ?_ | refine a1g (by decide) (by kernel_rfl) ?_ | refine a0o (by decide) ?_ | refine Kont.go hK ?_; clear hK K | refine KT.go hT ?_; clear hT hE T E | refine KT.go hE ?_; clear hT hE T E
  | simp [*, -List.all_flatten, -List.all_eq_true, DEFB, LENB, b8o, f8j, asR]
theorem rnd0 {p : Pg} (hp : VOk p) : Rnd p (a4m p) := ⟨a5m hp, (crd0 hp).least⟩
theorem d1w {p : Pg} (hb : PgB p) : PC Tryz.prog Gl 58 [.agg [.list 4 (fns p.funcs), .list 2 (gbs p.globals), .list 1 (lays p.layouts), .int .i64 p.main]] (.agg [.list 2 (sits (lfpP p).sites), .list 1 (lls (lfpP p).regs), .list 1 (lays (lfpP p).cells)]) := by
 cases hv : a2c p with
 | true => exact c9q hb hv
 | false =>
   rw [f2q hv]
   exact (c9r hb hv).deep ⟨_, rfl, _, _, rfl, .inr ⟨2, rfl⟩, _, _, rfl, .inr ⟨1, rfl⟩, _, _, rfl, .inr ⟨1, rfl⟩, rfl⟩
theorem e0g {p : Pg} (hv : a2c p = true) : ∃ x, Least p x := by
 have hp := vOk hv
 have key : ∀ n x, Rnd p x -> muR p x <= n -> ∃ y, Least p y := by
  intro n
  induction n with
  | zero =>
    intro x h hm
    by_cases e : x = b5v p x
    . exact ⟨x, h.fin hv e⟩
    . have := h.mu hp e; omega
  | succ n ih =>
    intro x h hm
    by_cases e : x = b5v p x
    . exact ⟨x, h.fin hv e⟩
    . exact ih _ (h.next hp) (by have := h.mu hp e; omega)
 exact key _ _ (rnd0 hp) (nr_ _)
theorem d4c {p : Pg} (hv : a2c p = true) : Least p (lfpP p) := by
 obtain ⟨x, hx⟩ := e0g hv
 rw [e3h hv hx]
 exact hx
theorem f3e {p : Pg} (hv : a2c p = true) : p.globals.length <= 64 := by
 simp only [a2c, a6e, bA_, dE_] at hv
 exact hv.1.1.1.1.1.2
theorem fok {p : Pg} (hv : a2c p = true) {k : Nat} (hk : k < p.funcs.length) {nm : ByteArray} {pa rg : Int} {c : List Ins} (e : p.funcs[k] = ⟨nm, pa, rg, c⟩) : FOk p k nm pa rg c := by
 have hp := vOk hv
 have hm : (⟨nm, pa, rg, c⟩ : FnD) ∈ p.funcs := by rw [<- e]; exact gm_ hk
 have := hp.nf
 exact ⟨hk, e, by omega, f4k hv hm, fun i hi => (hp.ins _ hm _ (gm_ hi)).op⟩
theorem f3r {p : Pg} (hv : a2c p = true) {k : Nat} {nm : ByteArray} {pa rg : Int} {c : List Ins} (h : FOk p k nm pa rg c) (i : Nat) : usC c i < 64 := by
 have hk := h.hf
 have hm : (⟨nm, pa, rg, c⟩ : FnD) ∈ p.funcs := by rw [<- h.e]; exact gm_ hk
 exact f0m (vOk hv) (f3e hv) hm i
theorem f2o {p : Pg} (hv : a2c p = true) {k : Nat} {nm : ByteArray} {pa rg : Int} {c : List Ins} (h : FOk p k nm pa rg c) {i : Nat} (hi : i < c.length) (hl : lkO c[i].op = true) : 0 <= c[i].a /\ c[i].a < rg := by
 have hk := h.hf
 have hm : (⟨nm, pa, rg, c⟩ : FnD) ∈ p.funcs := by rw [<- h.e]; exact gm_ hk
 have := ((vOk hv).ins _ hm _ (gm_ hi)).a
 simp only [lkO, Bool.or_eq_true, dE_] at hl
 rcases hl with e | e <;> rw [e] at this <;> simpa [opR, rR] using this
theorem rgaJ {X : Pts} {k : Nat} {a : Int} (hk : k < X.regs.length) (h : a.toNat < X.regs[k].length) : rg X k a = X.regs[k][a.toNat] := by
 have e : X.regs.getD k [] = X.regs[k] := by rw [gD_, gE_ hk]; rfl
 unfold rg
 rw [e, gD_, gE_ h]; rfl
theorem f2p : lkO 40 = true := by decide
def ptrs (n : Nat) : List (List FV) := (List.range n).map fun f => [.ptr [95, f] 11 0 0]
theorem a2v (n : Nat) : (ptrs n).length = n := by simp [ptrs]
theorem d3f {n i : Nat} (h : i < (ptrs n).length) : (ptrs n)[i] = [.ptr [95, i] 11 0 0] := by simp [ptrs]
theorem a8x (n : Nat) : ptrs n ++ [[.ptr [95, n] 11 0 0]] = ptrs (n + 1) := by simp [ptrs, List.range_succ]
def ptsV (x : Pts) (b : Bool) : List FV := if b = true then [.list 2 (sits x.sites), .list 1 (lls x.regs), .list 1 (lays x.cells)] else [.nils, .nils, .nils]
theorem b8d (x : Pts) : ptsV x true = [.list 2 (sits x.sites), .list 1 (lls x.regs), .list 1 (lays x.cells)] := rfl
theorem b8e (x : Pts) : ptsV x false = [.nils, .nils, .nils] := rfl
theorem b2f (x : Pts) (b : Bool) : nls (ptsV x b) = true := by cases b <;> simp [ptsV, nls, nl, a0v, a1j, a0c]
structure BsD (p : Pg) (B : Heap) : Prop where
 toH : BsH 5 B
 l98 : B [6, 98] = some (.cells 65 1 (ptrs p.funcs.length))
 st : ∀ f nm pa rg c, FOk p f nm pa rg c -> B [95, f] = some (.cells 72 11 [[.list 4 (fns p.funcs), .list 2 (gbs p.globals), .list 1 (lays p.layouts), .int .i64 p.main, .int .i64 f, .str nm, .int .i64 pa, .int .i64 rg, .list 5 (inss c), .sl [96, f] 1 0 c.length, .sl [97, f] 1 0 c.length]]) /\ B [96, f] = some (.cells 3 1 (ints (usL c))) /\ B [97, f] = some (.cells 68 1 (u64s (hdG 64 c)))
theorem insD {p : Pg} (hv : a2c p = true) {f : Nat} {nm : ByteArray} {pa rg : Int} {c : List Ins} (hF : FOk p f nm pa rg c) {i : Nat} (hi : i < c.length) : InsD c[i] := by
 have hk := hF.hf
 have hm : (⟨nm, pa, rg, c⟩ : FnD) ∈ p.funcs := by rw [<- hF.e]; exact gm_ hk
 have h := (vOk hv).ins _ hm _ (gm_ hi)
 have key : ∀ r v, opR p ⟨nm, pa, rg, c⟩ c[i] r v = true -> r = 100 -> 0 <= v := fun r v h e => by
  subst e
  simp [opR] at h
  exact h.1
 exact ⟨h.op, key _ _ h.a, key _ _ h.b, key _ _ h.c⟩
theorem d1u {p : Pg} (hv : a2c p = true) {f : Nat} {nm : ByteArray} {pa rg : Int} {c : List Ins} (hF : FOk p f nm pa rg c) {i : Nat} (hi : i < c.length) : PC Tryz.prog Gl 51 [.agg [.list 4 (fns p.funcs), .list 2 (gbs p.globals), .list 1 (lays p.layouts), .int .i64 p.main], .int .i64 f, .int .i64 i] (.list 1 (ints (dfL c[i]))) := by
 have hc := hF.hc.n1000
 have hf := hF.hf
 have e := hF.e
 have hi' : i < p.funcs[f].code.length := by rw [e]; exact hi
 exact e5o hF.hf hi' hF.h1 (by rw [e]; show c.length <= 2000000; omega) (x := c[i]) (by simp [e]) (insD hv hF hi)
theorem c5d {c : List Ins} (hc : CodeOk c) {j : Nat} : ∀ k (hk : k < (blks c).length) (h : j <= k), ((blks c)[j]'(Nat.lt_of_le_of_lt h hk)).1 <= (blks c)[k].1
 | 0, hk, h => by obtain rfl := Nat.le_zero.1 h; exact nr_ _
 | k + 1, hk, h => by
   by_cases e : j = k + 1
   . subst e; exact nr_ _
   . have h1 := c5d hc k (by omega) (by omega : j <= k)
     have h2 : (blks c)[k + 1].1 = (blks c)[k].2 := c5c hc hk
     have h3 := (a9c (c := c) (j := k) (by omega)).1.lt
     omega
theorem f4u {c : List Ins} (hc : CodeOk c) {i j : Nat} (hi : i < c.length) (hj : j < (blks c).length) : (blks c)[j].1 <= i ↔ j <= nmF c i := by
 obtain ⟨h1, h2, h3⟩ := b7e hc hi
 constructor
 . intro h
   rcases Nat.lt_or_ge (nmF c i) j with h4 | h4
   . have h5 := c5d hc j hj (by omega : nmF c i + 1 <= j)
     have h6 : (blks c)[nmF c i + 1].1 = (blks c)[nmF c i].2 := c5c hc (by show nmF c i + 1 < (blks c).length; omega)
     omega
   . exact h4
 . intro h
   have := c5d hc _ h1 h
   omega
theorem c5l {c : List Ins} {m a : Nat} {r u : Int} (hm : m < c.length) (ha : a <= m) (h : usB c r a (m + 1) = u) : (c[m].op = 51 /\ c[m].b = 0 /\ c[m].c = r /\ u = -1) \/ (¬ (c[m].op = 51 /\ c[m].b = 0 /\ c[m].c = r) /\ ((hasI (dfL c[m]) r = true /\ c[m].op = 18 /\ u = c[m].b) \/ (hasI (dfL c[m]) r = true /\ ¬ c[m].op = 18 /\ u = -1) \/ (hasI (dfL c[m]) r = false /\ usB c r a m = u))) := by
 replace h := h.symm
 rw [f0n hm ha] at h
 have hw : wrB c[m] r = ((decide (c[m].op = 51) && (decide (c[m].b = 0) && decide (c[m].c = r))) || hasI (dfL c[m]) r) := rfl
 by_cases hA : c[m].op = 51 /\ c[m].b = 0 /\ c[m].c = r
 . obtain ⟨h1, h2, h3⟩ := hA
   have h18 : ¬ c[m].op = 18 := by omega
   rw [hw, if_pos (by simp [h1, h2, h3]), if_neg h18] at h
   exact .inl ⟨h1, h2, h3, h⟩
 . refine .inr ⟨hA, ?_⟩
   have hA2 : (decide (c[m].op = 51) && (decide (c[m].b = 0) && decide (c[m].c = r))) = false := by
    simp only [<- Bool.decide_and, decide_eq_false_iff_not]; exact hA
   rw [hw, hA2, Bool.false_or] at h
   cases hh : hasI (dfL c[m]) r
   . rw [hh, if_neg (by simp)] at h
     exact .inr (.inr ⟨rfl, h.symm⟩)
   . rw [hh, if_pos rfl] at h
     by_cases h18 : c[m].op = 18
     . rw [if_pos h18] at h; exact .inl ⟨rfl, h18, h⟩
     . rw [if_neg h18] at h; exact .inr (.inl ⟨rfl, h18, h⟩)
def frB (c : List Ins) (i : Nat) : Nat -> Nat
 | 0 => 0
 | j + 1 => if j <= nmF c i then stJ c j else frB c i j
theorem f3q (c : List Ins) (i : Nat) : frB c i 0 = 0 := rfl
theorem f3o {c : List Ins} (hc : CodeOk c) {i j : Nat} (hi : i < c.length) (hj : j < (blks c).length) (h : (blks c)[j].1 <= i) : frB c i (j + 1) = (blks c)[j].1 := by
 rw [frB, if_pos ((f4u hc hi hj).1 h), c1p hj]
theorem f3p {c : List Ins} (hc : CodeOk c) {i j : Nat} (hi : i < c.length) (hj : j < (blks c).length) (h : ¬ (blks c)[j].1 <= i) : frB c i (j + 1) = frB c i j := by
 rw [frB, if_neg fun h' => h ((f4u hc hi hj).2 h')]
theorem d5o {c : List Ins} (hc : CodeOk c) {i : Nat} (hi : i < c.length) : frB c i (blks c).length = stF c i := by
 obtain ⟨h1, h2, h3⟩ := b7e hc hi
 have h4 := ((a9c h1).1.num i h2 h3).1
 have key : ∀ j, nmF c i < j -> frB c i j = stJ c (nmF c i) := by
  intro j
  induction j with
  | zero => intro h; omega
  | succ j ih =>
    intro h
    rw [frB]
    by_cases e : j = nmF c i
    . rw [if_pos (by omega), e]
    . rw [if_neg (by omega), ih (by omega)]
 rw [key _ h1, c1p h1, h4]
theorem e4b {c : List Ins} {B : List (Nat × Nat)} {i : Nat} (h : i < (bxW c B).length) : (bxW c B)[i] = bRow (B[i]'(by rwa [a4u] at h)) (nxV (nxB c (B[i]'(by rwa [a4u] at h)))) := by simp [bxW]
structure BsW (B : Heap) : Prop where
 toH : BsH 7 B
 f71 : B [71] = none
 f72 : B [72] = none
 lv : ∀ l o, B l = some o -> o ≠ .dead
theorem BsW.live {B : Heap} (h : BsW B) : ∀ l, inH (HP [] B noH) l -> ∃ o, ext B noH l = some o /\ o ≠ .dead := fun l hl => by
 cases e : B l with
 | none => exact absurd (by unfold HP; rw [a1l]; exact e) hl
 | some o => exact ⟨o, by rw [a1l]; exact e, h.lv l o e⟩
theorem BsW.c5 {B : Heap} (h : BsW B) : Clo (ext B noH) := by rw [a1l]; exact h.toH.clo
theorem BsW.l5 {B : Heap} (_ : BsW B) : ∀ l, inH (HP [] B noH) l -> ext B noH l ≠ none := fun _ h => h
end Go.Je
namespace Go.Je
open Go Go.FM Go.Gv Go.Proofs
set_option maxRecDepth 100000
set_option maxHeartbeats 40000000
open Classical in
noncomputable def rZ (c : List Ins) (k : Nat) : List Bool := (List.range c.length).map fun i => decide (i < k /\ Rc c (hd c i))
theorem e3c (c : List Ins) (k : Nat) : (rZ c k).length = c.length := by simp [rZ]
theorem rZ_0 (c : List Ins) : rZ c 0 = List.replicate c.length false := by
 unfold rZ
 refine List.ext_getElem (by simp) fun i h1 h2 => ?_
 rw [List.getElem_map, List.getElem_replicate]
 simp
theorem f1s (c : List Ins) : rZ c c.length = a4h c := by
 unfold rZ a4h
 refine List.map_congr_left fun i hi => decide_eq_decide.2 ?_
 rw [List.mem_range] at hi
 simp [hi]
theorem f1t {c : List Ins} {k i : Nat} (h : i < (rZ c k).length) : (rZ c k)[i] = true ↔ i < k /\ Rc c (hd c i) := by simp [rZ]
theorem rZ_s {c : List Ins} {k : Nat} (hk : k < c.length) (hx : hd c k < (rcL c).length) : (rZ c k).set k (rcL c)[hd c k] = rZ c (k + 1) := by
 refine d3b (by simp [e3c]) fun i h1 h2 => ?_
 rw [f1t, List.getElem_set]
 split
 . rename_i e; subst e
   rw [d2y]
   exact ⟨fun h => ⟨by omega, h⟩, fun h => h.2⟩
 . rename_i e
   rw [f1t]
   exact ⟨fun h => ⟨by omega, h.2⟩, fun h => ⟨by omega, h.2⟩⟩
theorem d8r {nm : ByteArray} {pa rg : Int} {c : List Ins} (hc : CodeOk c) : PC Tryz.prog Gl 18 [.agg [.str nm, .int .i64 pa, .int .i64 rg, .list 5 (inss c)]] (.list 1 (a2h (a4h c))) := by
 have h1000 := hc.n1000
 have hrc0 := a9u c
 have hs1 : (c.length : Int) <= 4611686018427387904 := by omega
 have hs2 : (c.length : Int) <= 281474976710656 := by omega
 refine a3s (res := [.tmp 2]) 6 27 [] (fun d ix => 0 :: d :: ix) (fn := Tryz.f18) (by kernel_rfl) (by rfl) (by rfl) (by rfl) (by simp) (by decide) ?_
 repeat' first
  | ((with_reducible refine a1a ?_); refine a1q (σ := {k : Nat // k <= c.length}) (fun y => [(5, .int .i64 (y.1 : Int))]) [] (fun y => []) [] (fun y => [([0, 10], .cells 4 1 (a2h (rZ c y.1)))]) (fun y => noH) (fun y => c.length - y.1) ⟨0, by simp⟩ (gk3 (j := 0) [] (Bs.pc _) ?_ ?_ ?_ ?_ ?_ ?_ ?_) ?_; (iterate 7 (focus (first | rfl | (simp [LPXB, *, SIMB, hdN, injB, a0d, a0f, a1s, rZ_0]; done)))); rintro ⟨k, hk⟩; simp only [lpS, LPXB]; (try dsimp only at hk); have hrl := e3c c k; have hrc := a9u c; rcases a0z hk with hlt | ⟨hlt, e⟩; rotate_left; subst e; have hend := f1s c; have htk : (a4h c).take c.length = a4h c := tL_ (by rw [a6i]; exact nr_ _); have hrl2 := a6i c; rotate_left; have wi := wli hlt (by omega); have hhl := c0m c k; have hhl2 : hd c k < c.length := (by omega); have hx : hd c k < (rcL c).length := (by omega); have hgz : (a2h (rZ c k))[k]? = some [.bool ((rZ c k)[k]'(by omega))] := a3z (by omega); have hbm := a3g (rZ c k) k ((rcL c)[hd c k]'hx) (by omega); rw [rZ_s hlt hx] at hbm; rotate_left)
  | ((with_reducible refine a0q ?_); refine a1b (⟨k + 1, by omega⟩) (gk3 (j := 0) [] (Bs.pc _) ?_ ?_ ?_ ?_ ?_ ?_ ?_) ?_; (iterate 7 (focus (first | rfl | (simp [LPXB, *, SIMB, hdN, injB, a0d, a0f, a1s]; done)))); (focus (dsimp only; omega)))
  | with_reducible first | refine stp ?_ | refine stpK ?_; intro K hK | refine stpC ?_; intro T E hT hE | refine stp2 ?_ ?_ <;> intro h | refine a0g rfl ?_ | refine a1e (e2u hc) (by simp [nls, nl, *, NLXB]) ?_ | refine hpc (e2u hc) (by simp [nls, nl, *, NLXB]) ?_ | refine a1e (c6a hc hlt) (by simp [nls, nl, *, NLXB]) ?_ | refine hpc (c6a hc hlt) (by simp [nls, nl, *, NLXB]) ?_ | refine a0j rfl (lbR rfl) a0i ?_ | refine a0j rfl (lbR rfl) (a0h (by simp [HPXB, ext, upd, *])) ?_ | refine a1g (by decide) (by kernel_rfl) ?_ | refine a0o (by decide) ?_ | refine Kont.go hK ?_; clear hK K | refine KT.go hT ?_; clear hT hE T E | refine KT.go hE ?_; clear hT hE T E
  | simp [*, -List.all_flatten, -List.all_eq_true, DEFB, LENB, asR, a1w, a0d, a4s, a3u, a0f, a1s, a4k, a6m, b6m]
end Go.Je
namespace Go.Je
open Go Go.FM Go.Gv Go.Proofs
set_option maxRecDepth 100000
set_option maxHeartbeats 40000000
theorem rgI : Rd Tryz.prog 3 1 (fun n : Int => [.int .i64 n]) (fun _ n => IntKind.i64.min <= n /\ n <= IntKind.i64.max) := f1l Tryz.underlying3 (by kernel_rfl)
theorem rgS : Rd Tryz.prog 9 1 (fun s : ByteArray => [.str s]) (fun N s => s.size <= maxLen /\ s.size <= N) := f1k Tryz.underlying9 (by kernel_rfl)
theorem f6u : Rd Tryz.prog 42 5 Ins.row (fun _ _ => True) :=
 b2c Tryz.underlying42 (by kernel_rfl) (a4o rfl rgI (a4o rfl rgI (a4o rfl rgI (a4o rfl rgI (a4o rfl rgI b9r))))) (fun x => match x with | (x0, x1, x2, x3, x4, ()) => ⟨x0, x1, x2, x3, x4⟩) (by intro x; rfl) (fun _ _ _ => trivial) (by intro y; rfl)
theorem f1h : Rd Tryz.prog 33 1 (fun L : List Ins => [.list 5 (inss L)]) (fun N L => L.length <= N /\ ∀ x ∈ L, True) := b2d Tryz.underlying33 (by kernel_rfl) (by decide) f6u
theorem rgFn : Rd Tryz.prog 35 4 FnD.row (fun N f => f.code.length <= N /\ f.name.size <= N) :=
 b2c Tryz.underlying35 (by kernel_rfl) (a4o rfl rgS (a4o rfl rgI (a4o rfl rgI (a4o rfl f1h b9r)))) (fun x => match x with | (x0, x1, x2, x3, ()) => ⟨x0, x1, x2, x3⟩) (by intro x; rfl) (fun _ _ h => ⟨h.2.2.2.1.1, h.1.2⟩) (by intro y; rfl)
theorem f6w : Rd Tryz.prog 22 1 (fun L : List FnD => [.list 4 (fns L)]) (fun N L => L.length <= N /\ ∀ x ∈ L, x.code.length <= N /\ x.name.size <= N) := b2d Tryz.underlying22 (by kernel_rfl) (by decide) rgFn
theorem rgGb : Rd Tryz.prog 79 2 Gb.row (fun _ _ => True) :=
 b2c Tryz.underlying79 (by kernel_rfl) (a4o rfl rgS (a4o rfl rgI b9r)) (fun x => match x with | (x0, x1, ()) => ⟨x0, x1⟩) (by intro x; rfl) (fun _ _ _ => trivial) (by intro y; rfl)
theorem f6v : Rd Tryz.prog 23 1 (fun L : List Gb => [.list 2 (gbs L)]) (fun N L => L.length <= N /\ ∀ x ∈ L, True) := b2d Tryz.underlying23 (by kernel_rfl) (by decide) rgGb
theorem f6t : Rd Tryz.prog 36 1 a3w (fun N L => L.length <= N /\ ∀ x ∈ L, IntKind.i64.min <= x /\ x <= IntKind.i64.max) := b2d Tryz.underlying36 (by kernel_rfl) (by decide) rgI
theorem f1g : Rd Tryz.prog 24 1 (fun L : List (List Int) => [.list 1 (lays L)]) (fun N L => L.length <= N /\ ∀ x ∈ L, x.length <= N /\ ∀ y ∈ x, IntKind.i64.min <= y /\ y <= IntKind.i64.max) := b2d Tryz.underlying24 (by kernel_rfl) (by decide) f6t
def f7d (p : Pg) : List FV := [.list 4 (fns p.funcs), .list 2 (gbs p.globals), .list 1 (lays p.layouts), .int .i64 p.main]
structure PgN (N : Nat) (p : Pg) : Prop where
 hf : p.funcs.length <= N
 hg : p.globals.length <= N
 hl : p.layouts.length <= N
 hb : ∀ x ∈ p.layouts, x.length <= N
 hfc : ∀ x ∈ p.funcs, x.code.length <= N /\ x.name.size <= N
theorem PgN.up {p : Pg} {M : Nat} (h : PgN M p) (hm : M <= 2000000) : PgB p := ⟨Nat.le_trans h.hf hm, Nat.le_trans h.hg hm, Nat.le_trans h.hl hm, fun x hx => Nat.le_trans (h.hb x hx) hm, fun x hx => Nat.le_trans (h.hfc x hx).1 hm⟩
theorem rgPg : Rd Tryz.prog 26 4 f7d PgN :=
 b2c Tryz.underlying26 (by kernel_rfl) (a4o rfl f6w (a4o rfl f6v (a4o rfl f1g (a4o rfl rgI b9r)))) (fun x => match x with | (x0, x1, x2, x3, ()) => ⟨x0, x1, x2, x3⟩) (by intro x; rfl) (fun _ _ h => ⟨h.1.1, h.2.1.1, h.2.2.1.1, fun x hx => (h.2.2.1.2 x hx).1, h.1.2⟩) (by intro y; rfl)
mutual
theorem a8u {H : Type} : ∀ d : DataW H, bulk d = YtfhhgjbcenhdeaaGreatDoor.Rows.uptoBulk d
 | .lit (.string _) => by simp [bulk, YtfhhgjbcenhdeaaGreatDoor.Rows.uptoBulk]
 | .lit (.int ..) => by simp [bulk, YtfhhgjbcenhdeaaGreatDoor.Rows.uptoBulk]
 | .lit (.bool _) => by simp [bulk, YtfhhgjbcenhdeaaGreatDoor.Rows.uptoBulk]
 | .lit (.float ..) => by simp [bulk, YtfhhgjbcenhdeaaGreatDoor.Rows.uptoBulk]
 | .lit .nil => by simp [bulk, YtfhhgjbcenhdeaaGreatDoor.Rows.uptoBulk]
 | .nil => by simp [bulk, YtfhhgjbcenhdeaaGreatDoor.Rows.uptoBulk]
 | .ptr d => by simp [bulk, YtfhhgjbcenhdeaaGreatDoor.Rows.uptoBulk, a8u d]
 | .slice a b => by simp [bulk, YtfhhgjbcenhdeaaGreatDoor.Rows.uptoBulk, b0v a, b0v b]
 | .agg a => by simp [bulk, YtfhhgjbcenhdeaaGreatDoor.Rows.uptoBulk, b0v a]
 | .iface _ d => by simp [bulk, YtfhhgjbcenhdeaaGreatDoor.Rows.uptoBulk, a8u d]
 | .map es => by simp [bulk, YtfhhgjbcenhdeaaGreatDoor.Rows.uptoBulk, b1e es]
 | .held _ => by simp [bulk, YtfhhgjbcenhdeaaGreatDoor.Rows.uptoBulk]
theorem b0v {H : Type} : ∀ l : List (DataW H), a7r l = YtfhhgjbcenhdeaaGreatDoor.Rows.uptoBulkAll l
 | [] => by simp [a7r, YtfhhgjbcenhdeaaGreatDoor.Rows.uptoBulkAll]
 | d :: r => by simp [a7r, YtfhhgjbcenhdeaaGreatDoor.Rows.uptoBulkAll, a8u d, b0v r]
theorem b1e {H : Type} : ∀ l : List (Lit × DataW H), a7q l = YtfhhgjbcenhdeaaGreatDoor.Rows.uptoBulkEntries l
 | [] => by simp [a7q, YtfhhgjbcenhdeaaGreatDoor.Rows.uptoBulkEntries]
 | x :: r => by simp [a7q, YtfhhgjbcenhdeaaGreatDoor.Rows.uptoBulkEntries, c3d x, b1e r]
theorem c3d {H : Type} : ∀ x : Lit × DataW H, a7p x = YtfhhgjbcenhdeaaGreatDoor.Rows.uptoBulkEntry x
 | (.string _, d) => by simp [a7p, YtfhhgjbcenhdeaaGreatDoor.Rows.uptoBulkEntry, a8u d]
 | (.int .., d) => by simp [a7p, YtfhhgjbcenhdeaaGreatDoor.Rows.uptoBulkEntry, a8u d]
 | (.bool _, d) => by simp [a7p, YtfhhgjbcenhdeaaGreatDoor.Rows.uptoBulkEntry, a8u d]
 | (.float .., d) => by simp [a7p, YtfhhgjbcenhdeaaGreatDoor.Rows.uptoBulkEntry, a8u d]
 | (.nil, d) => by simp [a7p, YtfhhgjbcenhdeaaGreatDoor.Rows.uptoBulkEntry, a8u d]
end
end Go.Je
