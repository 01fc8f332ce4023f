/- Parts of the proof. -/
import Derived.Test.YtfhhgjbcenhdeaaGreatDoorH5
import Derived.ProofKit
import Derived.OpenShut
import Derived.ShutString
import Derived.ChangeOld
import Derived.Below
import Derived.LaidMore
import Derived.Stop.Joined
import Derived.Lib.LaidTab
set_option linter.unusedSimpArgs false
set_option linter.unusedVariables false
namespace Go.FM
open Go
mutual
def asD : FV -> FV -> Prop
 | .nils, r => r = .nils \/ ∃ sz, r = .list sz []
 | .agg cs, r => ∃ ds, r = .agg ds /\ asDs cs ds
 | .tup cs, r => ∃ ds, r = .tup ds /\ asDs cs ds
 | .list sz xs, r => ∃ ys, r = .list sz ys /\ asDss xs ys
 | v, r => r = v
def asDs : List FV -> List FV -> Prop
 | [], l => l = []
 | x :: xs, l => ∃ y ys, l = y :: ys /\ asD x y /\ asDs xs ys
def asDss : List (List FV) -> List (List FV) -> Prop
 | [], l => l = []
 | x :: xs, l => ∃ y ys, l = y :: ys /\ asDs x y /\ asDss xs ys
end
section
variable {w w' : World} {F F' : Nat -> Prop} {U U' : Loc -> Prop} {m m' : Loc -> Nat × Nat} {P : Program}
theorem b7g : ∀ {xs ys : List FV}, asDs xs ys -> ys.length = xs.length
 | [], ys, h => by simp only [asDs] at h; subst h; rfl
 | x :: xs, ys, h => by
   obtain ⟨y, ys', rfl, _, h2⟩ := h
   simp [b7g h2]
theorem b4e : ∀ {xs ys : List (List FV)}, asDss xs ys -> ys.length = xs.length
 | [], ys, h => by simp only [asDss] at h; subst h; rfl
 | x :: xs, ys, h => by
   obtain ⟨y, ys', rfl, _, h2⟩ := h
   simp [b4e h2]
theorem b8t {sz : Nat} : ∀ {xs ys : List (List FV)}, asDss xs ys -> (∀ x ∈ xs, x.length = sz) -> ∀ y ∈ ys, y.length = sz
 | [], ys, h, _ => by simp only [asDss] at h; subst h; intro y hy; cases hy
 | x :: xs, ys, h, hl => by
   obtain ⟨y, ys', rfl, h1, h2⟩ := h
   intro z hz
   rcases List.mem_cons.1 hz with rfl | hz
   . rw [b7g h1]; exact hl x (by simp)
   . exact b8t h2 (fun x hx => hl x (by simp [hx])) z hz
mutual
theorem RF.asD {x y : FV} {v : Value} (h : RF w F U m x v) (hr : asD x y) : RF w F U m y v := by
 match x with
 | .nils =>
   cases h with
   | nils =>
   rcases hr with rfl | ⟨sz, rfl⟩
   . exact .nils
   . exact .list sz [] none 0 [] (by simp) (by simp) (by simp) .nil
 | .agg cs =>
   cases h with
   | agg _ vs h =>
   obtain ⟨ds, rfl, hds⟩ := hr
   exact .agg ds vs (RFs.asD h hds)
 | .tup cs =>
   cases h with
   | tup _ vs h =>
   obtain ⟨ds, rfl, hds⟩ := hr
   exact .tup ds vs (RFs.asD h hds)
 | .list sz xs =>
   cases h with
   | list _ _ A cap vs hl hc hm h =>
   obtain ⟨ys, rfl, hys⟩ := hr
   have e := b4e hys
   rw [<- e] at hc ⊢
   refine .list sz ys A cap vs (b8t hys hl) hc (fun hne => hm fun e' => ?_) (RFs.asDss h hys)
   subst e'
   exact hne (List.eq_nil_of_length_eq_zero (by rw [e]; rfl))
 | .undef => have e : y = .undef := hr; subst e; exact h
 | .int k n => have e : y = .int k n := hr; subst e; exact h
 | .bool b => have e : y = .bool b := hr; subst e; exact h
 | .str s => have e : y = .str s := hr; subst e; exact h
 | .ref cs => have e : y = .ref cs := hr; subst e; exact h
 | .ptr l sz i off => have e : y = .ptr l sz i off := hr; subst e; exact h
 | .nilp => have e : y = .nilp := hr; subst e; exact h
 | .sl l sz off len => have e : y = .sl l sz off len := hr; subst e; exact h
 | .mp l => have e : y = .mp l := hr; subst e; exact h
 | .nilm => have e : y = .nilm := hr; subst e; exact h
 | .clo f a b => have e : y = .clo f a b := hr; subst e; exact h
 | .nilf => have e : y = .nilf := hr; subst e; exact h
 | .emp => have e : y = .emp := hr; subst e; exact h
theorem RFs.asD {xs ys : List FV} {vs : List Value} (h : RFs w F U m xs vs) (hr : asDs xs ys) : RFs w F U m ys vs := by
 match xs with
 | [] => have e : ys = [] := hr; subst e; exact h
 | a :: as =>
   cases h with
   | cons _ v _ vs h hs =>
   obtain ⟨y, ys', rfl, h1, h2⟩ := hr
   exact .cons y v ys' vs (RF.asD h h1) (RFs.asD hs h2)
theorem RFs.asDss {xs ys : List (List FV)} {vs : List Value} (h : RFs w F U m xs.flatten vs) (hr : asDss xs ys) : RFs w F U m ys.flatten vs := by
 match xs with
 | [] => have e : ys = [] := hr; subst e; exact h
 | a :: as =>
   rw [List.flatten_cons] at h
   obtain ⟨v1, v2, rfl, h1, h2⟩ := RFs.part _ _ h
   obtain ⟨y, ys', rfl, h3, h4⟩ := hr
   exact (RFs.asD h1 h3).append (RFs.asDss h2 h4)
end
theorem PC.deep {G : List (Nat × List Value)} {f : FuncId} {args : List FV} {r r' : FV} (h : PC P G f args r) (hr : asD r r') : PC P G f args r' := by
 intro w F m vs hF hG hv hH
 refine (h w F m vs hF hG hv hH).mono ?_
 rintro e w' ⟨v, F', m', he, k1, k2, k3, k4, k5⟩
 exact ⟨v, F', m', he, k1, k2, k3, k4.asD hr, k5⟩
end
theorem b1b (H A : Heap) (l : Loc) (ob : FO) : ext H (upd A l ob) = upd (ext H A) l ob := by
 funext k
 by_cases e : k = l <;> simp [upd, ext, e]
def fzL (l0 : Loc) (sz0 : Nat) (xs0 : List (List FV)) : List (Loc × FO) -> List (Loc × FO)
 | [] => []
 | (k, o) :: r => if k = l0 then fzL l0 sz0 xs0 r else (k, fzO l0 sz0 xs0 o) :: fzL l0 sz0 xs0 r
theorem a3d (l0 : Loc) (sz0 : Nat) (xs0 : List (List FV)) : fzL l0 sz0 xs0 [] = [] := rfl
theorem a2o (l0 : Loc) (sz0 : Nat) (xs0 : List (List FV)) (k : Loc) (o : FO) (r : List (Loc × FO)) : fzL l0 sz0 xs0 ((k, o) :: r) = if k = l0 then fzL l0 sz0 xs0 r else (k, fzO l0 sz0 xs0 o) :: fzL l0 sz0 xs0 r := rfl
theorem f6c (l0 : Loc) (sz0 : Nat) (xs0 : List (List FV)) (L : List (Loc × FO)) : fzH l0 sz0 xs0 (HP L noH noH) = HP (fzL l0 sz0 xs0 L) noH noH := by
 funext q
 show (if q = l0 then none else (updL L noH q).map (fzO l0 sz0 xs0)) = updL (fzL l0 sz0 xs0 L) noH q
 induction L with
 | nil =>
   show (if q = l0 then none else none) = none
   split <;> rfl
 | cons p r ih =>
   obtain ⟨k, o⟩ := p
   simp only [fzL, updL, upd]
   by_cases e : q = l0
   . subst e
     simp only [if_true] at ih ⊢
     split
     . exact ih
     . rename_i hk
       simp only [updL, upd, Ne.symm hk, if_false]
       exact ih
   . simp only [e, if_false] at ih ⊢
     by_cases h1 : q = k
     . subst h1
       simp [e, updL, upd]
     . simp only [h1, if_false]
       split
       . exact ih
       . simp only [updL, upd, h1, if_false]
         exact ih
theorem f5x {c : Cfg} {vs : List FV} {tm : Asg} {L : List (Loc × FO)} {ix : List Nat} (l0 : Loc) (T0 : TypeId) (sz0 : Nat) (xs0 : List (List FV)) (hc : ∀ l, ¬ c.L l) (hl : HP L noH noH l0 = some (.cells T0 sz0 xs0)) (hn : nlss xs0 = true) :
 Gk c (Fs.mk (fzs l0 sz0 xs0 vs) (fzT l0 sz0 xs0 tm) (HP (fzL l0 sz0 xs0 L) noH noH) ix) ⟨vs, tm, HP L noH noH, ix⟩ := by
 rw [<- f6c]
 exact g9e l0 T0 sz0 xs0 hc hl hn
def inH (H : Heap) (l : Loc) : Prop := H l ≠ none
section
variable {P : Program} {Φ : FV -> Heap -> Prop}
theorem a4b {G : List (Nat × List Value)} {f : FuncId} {fn : Func} {code : Code} {res : List ResultVar} (nv n : Nat) (keep : List Nat) (nm : Nat -> List Nat -> Loc) {args : List FV} {H : Heap} (hf : P.funcs[f]? = some fn) (hb : fn.body = some code) (hn : fn.ntmps = n) (hres : fn.results.toList = res)
 (hargs : args.length <= nv) (hnv : nv <= n) (h : a3w P ⟨n, keep, nm, G, inH H⟩ code (LEnd P res H Φ) (Fs.init nv args H)) : FCr P G f args H Φ := e3l nv n keep nm hf hb hn hres hargs hnv h
theorem a5y {G : List (Nat × List Value)} {f : FuncId} {fn : Func} {code : Code} {res : List ResultVar} (nv n : Nat) (keep : List Nat) (nm : Nat -> List Nat -> Loc) {args : List FV} {H : Heap} {r : FV} {H' : Heap} (hf : P.funcs[f]? = some fn) (hb : fn.body = some code) (hn : fn.ntmps = n) (hres : fn.results.toList = res)
 (hargs : args.length <= nv) (hnv : nv <= n) (h : a3w P ⟨n, keep, nm, G, inH H⟩ code (LEnd P res H (fun r1 H1 => r1 = r /\ H1 = H')) (Fs.init nv args H)) : FC P G f args H r H' := g2y nv n keep nm hf hb hn hres hargs hnv h
theorem c1v {H H' : Heap} {L : List (Loc × FO)} {B A : Heap} {l : List FV} {r : FV} {j : Nat} (hb : Bs (inH H) j B A) (hl : hdN j (L.map Prod.fst) = true) (hr : a4i l = r) (hH : HP [] B A = H') (hn : nin (inH (HP [] B A)) (a4i l)) : LFin H (fun r1 H1 => r1 = r /\ H1 = H') (HP L B A) (some l) :=
 a7g hb hl ⟨hr, hH⟩ hn
end
section
variable {P : Program} {s : Fs} {r : FV} {H' : Heap}
def KFin (r : FV) (H' H : Heap) : Option (List FV) -> Prop
 | some l => H = H' /\ a4i l = r
 | none => False
theorem b8u {H : Heap} {l : List FV} : KFin r H' H (some l) = (H = H' /\ a4i l = r) := rfl
theorem d3b {res : List ResultVar} {e : Exit} (he : e = .normal \/ e = .ret) (h : KFin r H' s.H (resL P s res)) : KEnd P res r H' e s := by
 unfold KFin at h
 split at h
 . rename_i l hl; exact ⟨he, s, Wk.refl s, l, hl, h⟩
 . exact h.elim
theorem e1u {res : List ResultVar} (h : KFin r H' s.H (resL P s res)) : KEnd P res r H' .ret s := d3b (.inr rfl) h
theorem e1v {res : List ResultVar} (h : KFin r H' s.H (resL P s res)) : KEnd P res r H' .normal s := d3b (.inl rfl) h
theorem b4f {G : List (Nat × List Value)} {f : FuncId} {fn : Func} {code : Code} {res : List ResultVar} (nv n : Nat) (keep : List Nat) (nm : Nat -> List Nat -> Loc) {args : List FV} {H H' : Heap} {r : FV} (hf : P.funcs[f]? = some fn) (hb : fn.body = some code) (hn : fn.ntmps = n) (hres : fn.results.toList = res)
 (hargs : args.length <= nv) (hnv : nv <= n) (h : a3w P ⟨n, keep, nm, G, inH H⟩ code (KEnd P res r H') (Fs.init nv args H)) : FC P G f args H r H' := h1m nv n keep nm hf hb hn hres hargs hnv h
end
theorem e2c {c : Cfg} {vs : List FV} {tm : Asg} {H : Heap} {ix : List Nat} (l0 : Loc) (T0 : TypeId) (sz0 : Nat) (xs0 : List (List FV)) (hc : ∀ l, c.L l -> l ≠ l0 /\ ∃ o, H l = some o /\ o ≠ .dead) (hl : H l0 = some (.cells T0 sz0 xs0)) (hn : nlss xs0 = true) :
 Gk c (Fs.mk (fzs l0 sz0 xs0 vs) (fzT l0 sz0 xs0 tm) (fzH l0 sz0 xs0 H) ix) ⟨vs, tm, H, ix⟩ := by
 rintro X a w ⟨hN, F, m, h1, h2, h⟩
 have hlent : Live H m l0 -> ¬ X.lent (m l0).1 := fun hl0 ⟨l, ⟨o, ho, hd, h0⟩, e⟩ => by
  have hne : X.H0 l ≠ none := by simp [ho]
  obtain ⟨hne0, o', ho', hd'⟩ := hc l (h1.hd l hne)
  have hm := h.mfix l hne
  exact hne0 (h.heap.inj l l0 ⟨o', ho', hd', by rw [hm]; exact h0⟩ hl0 (by rw [hm]; exact e))
 let F' : Nat -> Prop := fun b => F b \/ (Live H m l0 /\ (m l0).1 = b)
 have hF : ∀ b, F b -> F' b := fun _ h => .inl h
 have hU : ∀ l, H l ≠ none -> l ≠ l0 -> fzH l0 sz0 xs0 H l ≠ none := fun l hl' hne => by
  cases e : H l with
  | none => exact absurd e hl'
  | some o => simp [fzH, hne, e]
 have hB : FzB w F' m l0 sz0 xs0 := by
  refine ⟨hn, ?_⟩
  rcases h.heap.obj l0 _ hl with ⟨g1, g2⟩ | ⟨g0, cc, g1, g2, g3, g4, g5⟩
  . exact .inl ⟨g1, g2⟩
  . refine .inr ⟨g0, .inr ⟨⟨_, hl, by simp, g0⟩, rfl⟩, T0, cc, g1, g3, ?_⟩
    exact (g5.keep (w' := w) (F' := F') (U' := fun l => H l ≠ none) (m' := m) hF (fun _ _ => rfl) (fun _ h => h) (fun _ _ => rfl)).nameless (by rw [<- a6k]; exact hn) _ _
 have hlive : ∀ l, Live (fzH l0 sz0 xs0 H) m l -> l ≠ l0 /\ Live H m l := fun l ⟨o, g1, g2, g3⟩ => by
  unfold fzH at g1
  split at g1
  . cases g1
  . rename_i hne
    rw [Option.map_eq_some_iff] at g1
    obtain ⟨o', g1, rfl⟩ := g1
    refine ⟨hne, o', g1, ?_, g3⟩
    rintro rfl
    exact g2 rfl
 refine ⟨hN, F', m, h1.more hF, fun y hy => ?_, ?_⟩
 . rcases hy with hy | ⟨hy, rfl⟩
   . exact h2 y hy
   . exact .inr ((h.own l0 hy).resolve_left (hlent hy))
 refine { df := h.df, vsz := by rw [a9e]; exact h.vsz, val := fun t => ?_, heap := ⟨fun l o ho => ?_, fun k k' hk hk' e => h.heap.inj k k' (hlive k hk).2 (hlive k' hk').2 e, fun k hk => ?_⟩, own := fun l hl => h.own l (hlive l hl).2,
          ext := fun l hl => hU l (h.ext l hl) (hc l (h1.hd l hl)).1, mfix := fun l hl => h.mfix l hl, frz := fun b hb => ?_, keep := h.keep, size := h.size, os := h.os, tape := h.tape, output := h.output }
 . have hv := h.val t
   have e : (Fs.mk (fzs l0 sz0 xs0 vs) (fzT l0 sz0 xs0 tm) (fzH l0 sz0 xs0 H) ix).get t = fz l0 sz0 xs0 ((Fs.mk vs tm H ix).get t) := by
    simp only [Fs.get, a9e]
    split
    . exact c6r ..
    . exact e1r ..
   rw [e]
   exact hv.fz hB hF hU
 . simp only [fzH] at ho
   split at ho
   . cases ho
   . rename_i hne
     rw [Option.map_eq_some_iff] at ho
     obtain ⟨o', ho', rfl⟩ := ho
     have hob := h.heap.obj l o' ho'
     cases o' with
     | cells T sz xs =>
       simp only [fzO, OR] at hob ⊢
       rcases hob with ⟨b1, b2⟩ | ⟨b0, cc, b1, b2, b3, b4, b5⟩
       . left; subst b1; exact ⟨rfl, b2⟩
       . right
         refine ⟨b0, cc, b1, b2, c6t b3, by rw [a9m]; exact b4, ?_⟩
         rw [a9m, b3y]
         exact b5.fz hB hF hU
     | map es clk =>
       simp only [fzO, OR] at hob ⊢
       obtain ⟨b0, aa, b1, b2⟩ := hob
       exact ⟨b0, aa, b1, b2.fz hB hF hU⟩
     | iter x q r t =>
       simp only [fzO, OR] at hob ⊢
       obtain ⟨b0, aa, b1, b2⟩ := hob
       exact ⟨b0, aa, b1.fz hB hF hU, b2⟩
     | dead => trivial
 . obtain ⟨hne, hk'⟩ := hlive k hk
   obtain ⟨g1, g2⟩ := h.heap.old k hk'
   refine ⟨g1, ?_⟩
   rintro (hy | ⟨hy, e⟩)
   . exact g2 hy
   . exact hne (h.heap.inj k l0 hk' hy e.symm)
 . rcases hb with hb | ⟨hb, rfl⟩
   . exact h.frz b hb
   . exact (h.heap.old l0 hb).1
section
variable {l0 : Loc} {sz0 : Nat} {xs0 : List (List FV)} {U : Loc -> Prop}
mutual
theorem c6v (hU : ¬ U l0) : ∀ {a : FV}, nin U a -> fz l0 sz0 xs0 a = a := by
 intro a h
 match a with
 | .ptr l sz i off => have : l ≠ l0 := fun e => hU (e ▸ h); simp [fz, this]
 | .sl l sz off len => have : l ≠ l0 := fun e => hU (e ▸ h); simp [fz, this]
 | .mp l => first | rfl | (have : l ≠ l0 := fun e => hU (e ▸ h); simp [fz, this])
 | .agg cs => simp only [fz, b3l hU (as := cs) h]
 | .tup cs => simp only [fz, b3l hU (as := cs) h]
 | .clo f x y => simp only [fz, b3l hU (as := x) h.1, b3l hU (as := y) h.2]
 | .list _ xs => have h : nlss xs = true := h; simp [fz, h]
 | .ref cs => have h : nls cs = true := h; simp [fz, h]
 | .undef => rfl
 | .int .. => rfl
 | .bool _ => rfl
 | .str _ => rfl
 | .nilp => rfl
 | .nils => rfl
 | .nilm => rfl
 | .nilf => rfl
 | .emp => rfl
theorem b3l (hU : ¬ U l0) : ∀ {as : List FV}, nins U as -> fzs l0 sz0 xs0 as = as := by
 intro as h
 match as with
 | [] => rfl
 | a :: as => simp only [fzs, c6v hU h.1, b3l hU (as := as) h.2]
end
theorem c6u (hU : ¬ U l0) : ∀ {xs : List (List FV)}, a3o U xs -> fzss l0 sz0 xs0 xs = xs
 | [], _ => rfl
 | a :: as, h => by simp only [fzss, b3l hU h.1, c6u hU (xs := as) h.2]
theorem d3w (hU : ¬ U l0) : ∀ {xs : List (FV × FV × Nat)}, nine U xs -> fze l0 sz0 xs0 xs = xs
 | [], _ => rfl
 | (k, v, n) :: as, h => by simp only [fze, c6v hU h.1.1, c6v hU h.1.2, d3w hU (xs := as) h.2]
theorem e6s (hU : ¬ U l0) {o : FO} (h : ninO U o) : fzO l0 sz0 xs0 o = o := by
 cases o with
 | cells T sz xs => simp only [fzO, c6u hU (xs := xs) h]
 | map es clk => simp only [fzO, d3w hU (xs := es) h]
 | iter x a b c => simp only [fzO, c6v hU (a := x) h]
 | dead => rfl
end
theorem d3y {l0 : Loc} {sz0 : Nat} {xs0 : List (List FV)} {B A : Heap} (hcl : Clo (ext B A)) (h0 : ext B A l0 = none) (L : List (Loc × FO)) (hL : ∀ p ∈ L, ext B A p.1 = none) : fzH l0 sz0 xs0 (HP L B A) = HP (fzL l0 sz0 xs0 L) B A := by
 have key : ∀ q o, ext B A q = some o -> q ≠ l0 /\ fzO l0 sz0 xs0 o = o := fun q o hq => ⟨fun e => (by rw [e, h0] at hq; cases hq), e6s (U := fun l => ext B A l ≠ none) (fun h => h h0) (hcl q o hq)⟩
 funext q
 show (if q = l0 then none else (HP L B A q).map (fzO l0 sz0 xs0)) = HP (fzL l0 sz0 xs0 L) B A q
 unfold HP
 rw [a4v, a4v]
 cases ea : A q with
 | some o =>
   have := key q o (a8q ea)
   simp only [this.1, if_false, Option.map_some, this.2]
 | none =>
   simp only
   clear hL
   induction L with
   | nil =>
     show (if q = l0 then none else (B q).map _) = B q
     cases eb : B q with
     | none => split <;> rfl
     | some o =>
       have := key q o (by rw [b6y ea]; exact eb)
       simp only [this.1, if_false, Option.map_some, this.2]
   | cons p r ih =>
     obtain ⟨k, o⟩ := p
     simp only [fzL, updL, upd]
     by_cases e : q = l0
     . subst e
       simp only [if_true] at ih ⊢
       split
       . exact ih
       . rename_i hk
         simp only [updL, upd, Ne.symm hk, if_false]
         exact ih
     . simp only [e, if_false] at ih ⊢
       by_cases h1 : q = k
       . subst h1
         simp [e, updL, upd]
       . simp only [h1, if_false]
         split
         . exact ih
         . simp only [updL, upd, h1, if_false]
           exact ih
theorem gk5 {c : Cfg} {vs1 vs : List FV} {tm1 tm : Asg} {L1 L : List (Loc × FO)} {B A : Heap} {H1 : Heap} {ix1 ix : List Nat} (b : List (Loc × Option Loc)) (hH1 : HP L1 B A = H1) (hinj : injB (bk b) (L1.map Prod.fst) = true) (hN : ∀ n ∈ L1.map Prod.fst ++ b.map Prod.fst ++ b.filterMap Prod.snd, ext B A n = none) (hl : ∀ p ∈ L, ext B A p.1 = none)
 (hcl : Clo (ext B A)) (hc : ∀ l, c.L l -> ext B A l ≠ none) (hv : a9u (bk b) (fun l => HP L1 B A l ≠ none) vs1 vs) (ht : simT (bk b) (fun l => HP L1 B A l ≠ none) vs.length tm tm1) (hH : simH (bk b) (fun l => HP L1 B A l ≠ none) (HP L B A) L1) : Gk c (Fs.mk vs1 tm1 H1 ix1) ⟨vs, tm, HP L B A, ix⟩ := by
 subst hH1
 refine e2b b hinj hN hcl ?_ hc hv ht hH
 rw [show HP L B A = ext (hpL L) (ext B A) from b4m hl]
 intro k o hk
 exact a8q hk
theorem f5w {c : Cfg} {j : Nat} {vs : List FV} {tm : Asg} {L : List (Loc × FO)} {B A : Heap} {ix : List Nat} (l0 : Loc) (T0 : TypeId) (sz0 : Nat) (xs0 : List (List FV)) (hb : Bs c.L j B A) (hnd : ∀ l, c.L l -> ∃ o, ext B A l = some o /\ o ≠ .dead) (hL : hdN j (l0 :: L.map Prod.fst) = true)
 (hl : HP L B A l0 = some (.cells T0 sz0 xs0)) (hn : nlss xs0 = true) : Gk c (Fs.mk (fzs l0 sz0 xs0 vs) (fzT l0 sz0 xs0 tm) (HP (fzL l0 sz0 xs0 L) B A) ix) ⟨vs, tm, HP L B A, ix⟩ := by
 have hfr : ∀ n ∈ l0 :: L.map Prod.fst, ext B A n = none := fun n hn' => by
  obtain ⟨r, rfl⟩ := a8f hL n hn'
  exact a0h.2 ⟨hb.fa j r (Nat.le_refl _), hb.fb j r (Nat.le_refl _)⟩
 have h0 := hfr l0 (by simp)
 have hL' : hdN j (L.map Prod.fst) = true := by
  simp only [hdN, List.all_cons, Bool.and_eq_true] at hL ⊢
  exact hL.2
 rw [<- d3y hb.clo h0 L fun p hp => hfr p.1 (by simp only [List.mem_cons, List.mem_map]; exact .inr ⟨p, hp, rfl⟩)]
 refine e2c l0 T0 sz0 xs0 (fun l hcl => ?_) hl hn
 obtain ⟨o, ho, hd⟩ := hnd l hcl
 exact ⟨fun e => (by rw [e, h0] at ho; cases ho), o, b6j hb.fb hL' l o ho, hd⟩
theorem gk3i {c : Cfg} {B A : Heap} {vs : List FV} {tm : Asg} {L : List (Loc × FO)} {ix : List Nat} {σ : Type} {j : Nat} {vs0 : List FV} {tm0 : Asg} {L0 : List (Loc × FO)} {sv : σ -> List (Nat × FV)} {kt : List Nat} {st : σ -> Asg} {dl : List Loc} {sh : σ -> List (Loc × FO)} {fA : σ -> Heap} {x : σ} (b : List (Loc × Option Loc)) (hb : Bs c.L j B (fA x)) (hA : fA x = A)
 (hn : hdN j ((a6e (sh x) (delL dl L0)).map Prod.fst ++ (b ++ mVs (setV (sv x) vs0) vs ++ mT tm (st x ++ a9c kt tm0)).map Prod.fst ++ (b ++ mVs (setV (sv x) vs0) vs ++ mT tm (st x ++ a9c kt tm0)).filterMap Prod.snd) = true) (hl : hdN j (L.map Prod.fst) = true)
 (hinj : injB (bk (b ++ mVs (setV (sv x) vs0) vs ++ mT tm (st x ++ a9c kt tm0))) ((a6e (sh x) (delL dl L0)).map Prod.fst) = true)
 (hv : a9u (bk (b ++ mVs (setV (sv x) vs0) vs ++ mT tm (st x ++ a9c kt tm0))) (inH (HP (a6e (sh x) (delL dl L0)) B (fA x))) (setV (sv x) vs0) vs)
 (ht : simT (bk (b ++ mVs (setV (sv x) vs0) vs ++ mT tm (st x ++ a9c kt tm0))) (inH (HP (a6e (sh x) (delL dl L0)) B (fA x))) vs.length tm (st x ++ a9c kt tm0))
 (hH : simH (bk (b ++ mVs (setV (sv x) vs0) vs ++ mT tm (st x ++ a9c kt tm0))) (inH (HP (a6e (sh x) (delL dl L0)) B (fA x))) (HP L B A) (a6e (sh x) (delL dl L0))) : Gk c (lpS vs0 tm0 L0 B sv kt st dl sh fA x) ⟨vs, tm, HP L B A, ix⟩ :=
 gk3 b hb hA hn hl hinj hv ht hH
end Go.FM
namespace Go.FM
open Go
open Go.ChangeMaps (setBlock)
section
variable {P : Program} {X : Ctx} {c : Cfg} {w w' : World} {F F' : Nat -> Prop} {m m' : Loc -> Nat × Nat} {s s' s1 : Fs} {a a' : Act} {o : Oper} {ops : Array Oper} {Φ : Fs -> Prop} {l l1 l2 post : List Oper} {Q : Exit -> Fs -> Prop}
def WL (P : Program) (c : Cfg) (ops : Array Oper) (l : List Oper) (Φ : Fs -> Prop) (s : Fs) : Prop :=
 ∀ (X : Ctx) (a : Act) (w : World) (Q : Exit -> Act -> World -> Prop), Rel X c s a w -> (∀ s1 a' w', Φ s1 -> Rel X c s1 a' w' -> Q .normal a' w') -> wpList P ops Q l a w
theorem a1z {id : Nat} (h : ∀ K : Fs -> Prop, Kont Q K -> WL P c ops ops.toList (Fend c.keep ops K) s) : a3w P c (.region id ops false) Q s :=
 e9k (fun s' => Fend c.keep ops (Q .normal) s') (h _ fun _ h => h) fun _ h => h
theorem a1i (n : Nat) (h : wOps P c ops (l.take n) (WL P c ops (l.drop n) Φ) s) : WL P c ops l Φ s := by
 intro X a w Q hR hQ
 rw [<- List.take_append_drop n l]
 exact c4x (fun s1 a1 w1 h1 hk => hk X a1 w1 Q h1 hQ) (l.take n) s a w hR h
theorem b3t (h : wOps P c ops l Φ s) : WL P c ops l Φ s := fun X a w Q hR hQ =>
 b8x (fun s3 a3 w3 h4 h5 => hQ s3 a3 w3 h5 h4) l s a w hR h
theorem f2t (hg : Gk c s1 s) (h : WL P c ops l Φ s1) : WL P c ops l Φ s := fun X a w Q hR hQ => h X a w Q (hg X a w hR) hQ
theorem e1d {Ψ : Fs -> Prop} (hg : a3q ops o s = some true) (ho : OWp P c o s Ψ) (h : ∀ s1, Ψ s1 -> WL P c ops post Φ s1) : WL P c ops (o :: post) Φ s := by
 intro X a w Q hR hQ
 unfold wpList
 rw [if_pos (a7d hR hg)]
 exact .inl (ho X a w _ _ hR fun s2 u w2 h2 h3 => h s2 h2 X _ w2 Q h3 hQ)
theorem a2b {id : Nat} (rs : List Loc) (n : Nat) (hm : P.follows .mixedOrders = true) (hB : c4j ops n = true)
 (h : ∀ K : Fs -> Prop, Kont Q K -> awH P c ops n (WL P c ops (ops.toList.drop n) (Fend c.keep ops K)) (rmvs rs s.H) rs 0 (ops.toList.take n) s []) : a3w P c (.region id ops true) Q s :=
 g2b (fun s' => Fend c.keep ops (Q .normal) s') (fun id X a w Q' hR hQ => c9j hm hB (b9l rs s.H) (h _ fun _ h => h) (fun s1 a w ht hr => ht X a w Q' hr hQ) hR) fun _ h => h
theorem a4q {n k : Nat} {K : Fs -> Prop} {H0 : Heap} {rs : List Loc} {As : List Heap} (h : K s) : awH P c ops n K H0 rs k [] s As := h
def StL (P : Program) (c : Cfg) (ops : Array Oper) (post : List Oper) (Φ : Fs -> Prop) (x : Option Fs) : Prop := match x with
 | some s1 => WL P c ops post Φ s1
 | none => False
theorem a3u : StL P c ops post Φ (some s) = WL P c ops post Φ s := rfl
def MDo (P : Program) (c : Cfg) (ops : Array Oper) (o : Oper) (post : List Oper) (Φ : Fs -> Prop) (s : Fs) (x : Option (FuncId × List FV)) : Prop := match x with
 | some (f, A) => fnOk P f = true /\ (∀ d, o.dst = some d -> d < c.N) /\ ∃ Ψ, FCr P c.G f A s.H Ψ /\ ∀ r H', Ψ r H' -> StL P c ops post Φ (putD c o r { s with H := H' })
 | none => False
def MG (P : Program) (c : Cfg) (ops : Array Oper) (o : Oper) (post : List Oper) (Φ : Fs -> Prop) (s : Fs) (b : Option Bool) : Prop := match b with
 | some true => MDo P c ops o post Φ s (a2t s o)
 | some false => StL P c ops post Φ (putD c o (.tup []) s)
 | none => False
theorem MG_t : MG P c ops o post Φ s (some true) = MDo P c ops o post Φ s (a2t s o) := rfl
theorem MG_f : MG P c ops o post Φ s (some false) = StL P c ops post Φ (putD c o (.tup []) s) := rfl
theorem a7f (h : MG P c ops o post Φ s (a3q ops o s)) : WL P c ops (o :: post) Φ s := by
 unfold MG at h
 cases hg : a3q ops o s with
 | none => rw [hg] at h; exact h.elim
 | some b =>
   rw [hg] at h
   cases b
   . simp only at h
     unfold StL at h
     cases hp : putD c o (.tup []) s with
     | none => rw [hp] at h; exact h.elim
     | some s1 =>
       rw [hp] at h
       intro X a w Q hR hQ
       unfold wpList
       rw [if_neg (by rw [a7d hR hg]; simp)]
       exact h X _ w Q (b9e hR hp) hQ
   . simp only at h
     unfold MDo at h
     cases hc : a2t s o with
     | none => rw [hc] at h; exact h.elim
     | some x =>
       obtain ⟨f, A⟩ := x
       rw [hc] at h
       obtain ⟨h1, h2, Ψ, h3, h4⟩ := h
       refine e1d hg (e0q hc h1 h2 h3) fun s1 ⟨r, H', hΨ, hp⟩ => ?_
       have := h4 r H' hΨ
       rw [hp] at this
       exact this
theorem d2o {f : FuncId} {A : List FV} {Ψ : FV -> Heap -> Prop} (hf : fnOk P f = true) (hN : ∀ d, o.dst = some d -> d < c.N) (hfc : FCr P c.G f A s.H Ψ) (h : ∀ r H', Ψ r H' -> StL P c ops post Φ (putD c o r { s with H := H' })) : MDo P c ops o post Φ s (some (f, A)) := ⟨hf, hN, Ψ, hfc, h⟩
theorem b9j (w : World) (ty : TypeId) (r bm since c0 : Nat) (seen : Array Nat) (es : Array MapEntry) (clock : Nat)
 (hr : w.heap[r]? = some (.mapIter (some bm) since seen c0)) (hb : w.heap[bm]? = some (.map es clock)) (hold : seen = #[] \/ ∃ x ∈ es.toList, x.born < c0) :
 ((∀ x ∈ es.toList, x.born < since -> seen.contains x.born = true) /\ ∃ w1 : World, (w1 = w \/ w1 = w.drew) /\ (Instr.next (.pointer (some ⟨r, 0, none⟩)) false ty).run P w = .ok (.tuple #[.bool false]) w1) \/
 ∃ e ∈ (leftOf es seen).toList, ∃ w1 : World, (w1 = w \/ w1 = w.drew) /\ (Instr.next (.pointer (some ⟨r, 0, none⟩)) false ty).run P w = .ok (.tuple #[.bool true, e.key, e.val]) (setBlock w1 r (.mapIter (some bm) since (seen.push e.born) clock)) := by
 have htest : (!seen.isEmpty && !es.isEmpty && es.all (fun x => decide (x.born ≥ c0))) = false := by
  rcases hold with rfl | ⟨x, hx, hlt⟩
  . simp
  . have : es.all (fun x => decide (x.born ≥ c0)) = false := by
     rw [Bool.eq_false_iff]
     intro h
     rw [Array.all_eq_true_iff_forall_mem] at h
     have h1 := h x (by simpa using hx)
     simp at h1
     omega
    simp [this]
 simp only [Instr.next, getObj, Sem.run_bind, Sem.run, hr, hb, Result.andThen, htest, Bool.false_eq_true, if_false]
 have hL : leftOf es seen = Array.filter (fun e => !seen.contains e.born) es := rfl
 rw [<- hL]
 have hold' : ∀ x ∈ es.toList, x.born < since -> ((leftOf es seen).filter (fun x => decide (x.born < since))).isEmpty = true -> seen.contains x.born = true := by
  intro x hx hlt he
  rw [Array.isEmpty_iff, Array.filter_eq_empty_iff] at he
  by_cases hc : seen.contains x.born = true
  . exact hc
  . have := he x (by rw [hL, Array.mem_filter]; exact ⟨by simpa using hx, by simpa using hc⟩)
    simp at this
    omega
 generalize hO : (leftOf es seen).filter (fun x => decide (x.born < since)) = O at hold' ⊢
 generalize hN : (leftOf es seen).filter (fun x => decide (x.born ≥ since)) = N
 have hmem : ∀ x ∈ O ++ N, x ∈ (leftOf es seen).toList := by
  intro x hx
  rw [Array.mem_append, <- hO, <- hN, Array.mem_filter, Array.mem_filter] at hx
  rcases hx with hx | hx <;> simpa using hx.1
 have hch : ∀ n : Nat, 0 < n -> ∃ (j : Nat) (w1 : World), j < n /\ (w1 = w \/ w1 = w.drew) /\ (choose (Question.mapNext n)).run P w = .ok j w1 := by
  intro n hn
  by_cases hf : n <= 1
  . exact ⟨0, w, by omega, Or.inl rfl, by simp [choose, Sem.run, Question.forced, hf]⟩
  . exact ⟨_, w.drew, Nat.mod_lt _ (by omega), Or.inr rfl, by
     simp only [choose, Sem.run, Question.forced, decide_eq_true_eq, hf, if_false, Question.cut]
     rfl⟩
 generalize hC : (if O.isEmpty = true then #[none] else #[]) ++ (O ++ N).map some = C
 have hCpos : 0 < C.size := by
  rw [<- hC, Array.size_append, Array.size_map, Array.size_append]
  by_cases he : O.isEmpty = true
  . simp [he]; omega
  . simp only [he, Bool.false_eq_true, if_false]
    have : O.size ≠ 0 := fun h => he (by simp [Array.isEmpty, h])
    simp
    omega
 obtain ⟨j, w1, hj, hal, hrun⟩ := hch C.size hCpos
 have hr1 : w1.heap[r]? = some (.mapIter (some bm) since seen c0) := by rcases hal with rfl | rfl <;> exact hr
 have hcj : C[j]? = some C[j] := Array.getElem?_eq_getElem hj
 have hm : C[j] ∈ C := Array.getElem_mem hj
 cases he : C[j] with
 | none =>
   left
   rw [he] at hm hcj
   have hempty : O.isEmpty = true := by
    rw [<- hC, Array.mem_append] at hm
    rcases hm with hm | hm
    . by_cases he : O.isEmpty = true
      . exact he
      . simp [he] at hm
    . simp at hm
   refine ⟨fun x hx hlt => hold' x hx hlt hempty, w1, hal, ?_⟩
   simp only [hrun, Result.andThen, hcj]
   rfl
 | some e =>
   right
   rw [he] at hm hcj
   have hel : e ∈ O ++ N := by
    rw [<- hC, Array.mem_append] at hm
    rcases hm with hm | hm
    . by_cases he : O.isEmpty = true
      . simp [he] at hm
      . simp [he] at hm
    . simpa using hm
   refine ⟨e, hmem e hel, w1, hal, ?_⟩
   simp only [hrun, Result.andThen, hcj, Sem.run_bind, run_setObj_at hr1]
   rfl
def g2o (s : Fs) (l k : Loc) (since : Nat) (seen : List Nat) (es : List (FV × FV × Nat)) (clk d : Nat) (s1 : Fs) : Prop :=
 ((∀ e ∈ es, e.2.2 < since -> e.2.2 ∈ seen) /\ s1 = s.put d (.tup [.bool false])) \/
 ∃ e ∈ es, e.2.2 ∉ seen /\ s1 = ({ s with H := upd s.H l (.iter (.mp k) since (seen ++ [e.2.2]) clk) }).put d (.tup [.bool true, e.1, e.2.1])
theorem c9p {it : Operand} {d : Nat} {l k : Loc} {since last clk : Nat} {seen : List Nat} {es : List (FV × FV × Nat)} (ho : o.op = .next it false) (hd : o.dst = some d) (hN : d < c.N) (hx : rv s it = .ptr l 0 0 0)
 (hl : s.H l = some (.iter (.mp k) since seen last)) (hk : s.H k = some (.map es clk)) (hold : seen = [] \/ ∃ e ∈ es, e.2.2 < last) : OWp P c o s (g2o s l k since seen es clk d) := by
 rintro X a w K Q ⟨hsz, F, m, h1, h2, h⟩ hK
 have hxv := a4a h it
 rw [hx] at hxv
 generalize hxe : a.eval it = vx at hxv
 cases hxv
 obtain ⟨h0, q, g1, g2⟩ := h.heap.obj _ _ hl
 cases g1 with
 | mp _ huk =>
 obtain ⟨hk0, ar, k1, k2⟩ := h.heap.obj _ _ hk
 have hdN : d < a.tmps.size := by rw [hsz]; exact hN
 have hfin : ∀ (v : FV) (u : Value) (w' : World) (s' : Fs), (execOp a.eval o).run P w = .ok (.value u) w' -> RelX X F m s' a w' -> RF w' F (fun l => s'.H l ≠ none) m v u -> g2o s l k since seen es clk d (s'.put d v) -> o.wp P a w K Q := by
  intro v u w' s' hrun hR hv hn
  unfold Oper.wp
  rw [hrun, Oper.upon_value]
  refine hK _ u w' hn ⟨by rw [b0n]; exact hsz, F, m, h1, h2, ?_⟩
  have := hR.put (d := d) (x := v) (v := u) hdN hv
  rw [hd]; exact this
 rcases b9j (P := P) w o.type (m l).1 (m k).1 since last seen.toArray ar clk g2 k1 (by
  rcases hold with rfl | ⟨e, he, hlt⟩
  . exact .inl rfl
  . obtain ⟨x, hx', hre⟩ := k2.mem' he
    exact .inr ⟨x, hx', by rw [hre.born]; exact hlt⟩) with ⟨hz, w1, hw1, hrun⟩ | ⟨x, hxm, w1, hw1, hrun⟩
 . have hR1 : RelX X F m s a w1 := by rcases hw1 with rfl | rfl; exact h; exact h.drew
   refine hfin (.tup [.bool false]) (.tuple #[.bool false]) w1 s ?_ hR1 (by simpa using RF.tup _ _ (.cons _ _ _ _ (.bool false) .nil)) (.inl ⟨fun e he hlt => ?_, rfl⟩)
   . simp only [execOp, ho, hxe, Nat.zero_mul, Nat.add_zero, Sem.run_bind, hrun]; rfl
   . obtain ⟨x, hx', hre⟩ := k2.mem' he
     have := hz x hx' (by rw [hre.born]; exact hlt)
     rw [<- hre.born]
     simpa using this
 . have hxl : x ∈ ar.toList /\ x.born ∉ seen := by
    unfold leftOf at hxm
    simpa using hxm
   obtain ⟨e, he, hre⟩ := k2.mem hxl.1
   have hR1 : RelX X F m s a w1 := by rcases hw1 with rfl | rfl; exact h; exact h.drew
   have g21 : w1.heap[(m l).1]? = some (.mapIter (some (m k).1) since seen.toArray last) := by rcases hw1 with rfl | rfl <;> exact g2
   have hT := hR1.turn (o := .iter (.mp k) since (seen ++ [e.2.2]) clk) (ob := .mapIter (some (m k).1) since (seen.toArray.push x.born) clk) hl (by simp) h0 (by simp) g21 (fun w' q1 q2 => by
    refine ⟨h0, some (m k).1, .mp k (by unfold upd; split <;> simp [huk]), ?_⟩
    rw [q1, <- hre.born]
    simp)
   have hre1 : RE w1 F (fun l => s.H l ≠ none) m e x := by rcases hw1 with rfl | rfl; exact hre; exact ⟨hre.key.drewn, hre.val.drewn, hre.born⟩
   have hbl := fun b (hb : F b) => (MapKept.heap_set (o' := .mapIter (some (m k).1) since (seen.toArray.push x.born) clk) g21).2 b fun e => (hR1.heap.old l ⟨_, hl, by simp, h0⟩).2 (e ▸ hb)
   have hU : ∀ k', s.H k' ≠ none -> upd s.H l (.iter (.mp k) since (seen ++ [e.2.2]) clk) k' ≠ none := fun k' hk' => by unfold upd; split <;> simp [hk']
   have hv := RFs.cons _ _ _ _ (RF.bool (w := setBlock w1 (m l).1 (.mapIter (some (m k).1) since (seen.toArray.push x.born) clk)) (F := F) (U := fun k' => upd s.H l (.iter (.mp k) since (seen ++ [e.2.2]) clk) k' ≠ none) (m := m) true)
    (.cons _ _ _ _ (hre1.key.keep (fun _ h => h) hbl hU (fun _ _ => rfl)) (.cons _ _ _ _ (hre1.val.keep (fun _ h => h) hbl hU (fun _ _ => rfl)) .nil))
   refine hfin (.tup [.bool true, e.1, e.2.1]) (.tuple #[.bool true, x.key, x.val]) _ { s with H := upd s.H l (.iter (.mp k) since (seen ++ [e.2.2]) clk) } ?_ hT (RF.tup _ _ hv) (.inr ⟨e, he, by rw [<- hre.born]; exact hxl.2, rfl⟩)
   simp only [execOp, ho, hxe, Nat.zero_mul, Nat.add_zero, Sem.run_bind, hrun]; rfl
theorem c2x {it : Operand} {d : Nat} {l k : Loc} {since last clk : Nat} {seen : List Nat} {es : List (FV × FV × Nat)} (hg : a3q ops o s = some true) (ho : o.op = .next it false) (hd : o.dst = some d) (hN : d < c.N) (hx : rv s it = .ptr l 0 0 0)
 (hl : s.H l = some (.iter (.mp k) since seen last)) (hk : s.H k = some (.map es clk)) (hold : seen = [] \/ ∃ e ∈ es, e.2.2 < last)
 (h1 : (∀ e ∈ es, e.2.2 < since -> e.2.2 ∈ seen) -> WL P c ops post Φ (s.put d (.tup [.bool false])))
 (h2 : ∀ e ∈ es, e.2.2 ∉ seen -> WL P c ops post Φ (({ s with H := upd s.H l (.iter (.mp k) since (seen ++ [e.2.2]) clk) }).put d (.tup [.bool true, e.1, e.2.1]))) : WL P c ops (o :: post) Φ s :=
 e1d hg (c9p ho hd hN hx hl hk hold) fun s1 h => by
  rcases h with ⟨hz, rfl⟩ | ⟨e, he, hn, rfl⟩
  . exact h1 hz
  . exact h2 e he hn
end
end Go.FM
namespace Go.FM
open Go
section
variable {P : Program} {G : List (Nat × List Value)}
theorem FC.frozen {f : FuncId} {args : List FV} {H : Heap} {l : Loc} {T : TypeId} {sz : Nat} {xs : List (List FV)} (h : FC P G f args H (.sl l sz 0 xs.length) (upd H l (.cells T sz xs))) (h0 : H l = none) (hn : nlss xs = true) (hc : Clo H) : FC P G f args H (.list sz xs) H := by
 intro w F m vs hF hG hv hH
 refine (h w F m vs hF hG hv hH).mono ?_
 rintro e w' ⟨v, F', m', he, k1, k2, k3, k4, k5, k6, k7, k8, k9⟩
 have hself : upd H l (.cells T sz xs) l = some (.cells T sz xs) := by simp [upd]
 have hne : ∀ q, H q ≠ none -> q ≠ l := fun q hq e => hq (e ▸ h0)
 have hup : ∀ q o, H q = some o -> upd H l (.cells T sz xs) q = some o := fun q o hq => by
  have := hne q (by simp [hq])
  simp [upd, this, hq]
 have live : ∀ q, Live H m' q -> Live (upd H l (.cells T sz xs)) m' q := fun q ⟨o, g1, g2⟩ => ⟨o, hup q o g1, g2⟩
 let F2 : Nat -> Prop := fun b => F' b \/ (Live (upd H l (.cells T sz xs)) m' l /\ (m' l).1 = b)
 have hF2 : ∀ b, F' b -> F2 b := fun _ h => .inl h
 have hB : FzB w' F2 m' l sz xs := by
  refine ⟨hn, ?_⟩
  rcases k5.obj l _ hself with ⟨g1, g2⟩ | ⟨g0, cc, g1, g2, g3, g4, g5⟩
  . exact .inl ⟨g1, g2⟩
  . refine .inr ⟨g0, .inr ⟨⟨_, hself, by simp, g0⟩, rfl⟩, T, cc, g1, g3, ?_⟩
    exact (g5.keep (w' := w') (F' := F2) (U' := fun q => upd H l (.cells T sz xs) q ≠ none) (m' := m') hF2 (fun _ _ => rfl) (fun _ h => h) (fun _ _ => rfl)).nameless (by rw [<- a6k]; exact hn) _ _
 have hr := RF.fz (U' := fun q => H q ≠ none) k4 hB hF2 (fun q hq hql => by
  simp only [upd, hql, if_false] at hq; exact hq)
 have er : FM.fz l sz xs (.sl l sz 0 xs.length) = .list sz xs := by simp [FM.fz]
 rw [er] at hr
 have hlnew : Live (upd H l (.cells T sz xs)) m' l -> w.heap.size <= (m' l).1 := fun hl => by
  rcases k6 l hl with ⟨k, hk, e⟩ | h
  . exfalso
    obtain ⟨o, g1, g2, g3⟩ := hk
    have hm := (k3 k (by simp [g1])).1
    have : k = l := k5.inj k l ⟨o, hup k o g1, g2, by rw [hm]; exact g3⟩ hl (by rw [hm]; exact e)
    subst this
    rw [h0] at g1; cases g1
  . exact h
 refine ⟨v, F2, m', he, fun y hy => .inl (k1 y hy), fun y hy => ?_, fun q hq => ⟨(k3 q hq).1, hq⟩, hr, ⟨fun q o hq => ?_, fun q q' hq hq' => k5.inj q q' (live q hq) (live q' hq'), fun q hq => ⟨(k5.old q (live q hq)).1, ?_⟩⟩, fun q hq => k6 q (live q hq), k7, k8, k9⟩
 . rcases hy with hy | ⟨hl, rfl⟩
   . exact k2 y hy
   . exact ⟨.inr (hlnew hl), (k5.old l hl).1⟩
 . exact ((k5.obj q o (hup q o hq)).keep (F' := F2) hF2 (fun _ _ => rfl) (fun _ h => h) (fun _ _ => rfl) rfl (fun _ _ => rfl)).nin (hc q o hq)
 . rintro (hy | ⟨hl, e⟩)
   . exact (k5.old q (live q hq)).2 hy
   . have : q = l := k5.inj q l (live q hq) hl e.symm
     subst this
     obtain ⟨o, g1, _⟩ := hq
     rw [h0] at g1; cases g1
theorem FC.asR' {f : FuncId} {args : List FV} {H H' : Heap} {r r' : FV} (h : FC P G f args H r H') (hr : asR r r') : FC P G f args H r' H' := by
 intro w F m vs hF hG hv hH
 refine (h w F m vs hF hG hv hH).mono ?_
 rintro e w' ⟨v, F', m', he, k1, k2, k3, k4, k5⟩
 exact ⟨v, F', m', he, k1, k2, k3, k4.asR hr, k5⟩
end
theorem d3m {j : Nat} {L : List (Loc × FO)} {B : Heap} {r : List Nat} {o : FO} (fb : ∀ r, B (j :: r) = none) (hl : hdN j (L.map Prod.fst) = true) (h : updL L B (j :: r) = some o) : HSub (updL [(j :: r, o)] B) (updL L B) := by
 intro k q hk
 simp only [updL, upd] at hk
 split at hk
 . rename_i e; subst e
   obtain rfl := Option.some.inj hk
   exact h
 . rw [a6b fun p hp e => ?_]
   . exact hk
   . obtain ⟨s, hs⟩ := a8f hl p.1 (List.mem_map.2 ⟨p, hp, rfl⟩)
     rw [<- e, hs, fb s] at hk
     cases hk
class Stp (G : Prop) (H : outParam Prop) : Prop where
 go : H -> G
class StpK (G : Prop) (H : outParam Prop) : Prop where
 go : H -> G
class StpC (G : Prop) (H : outParam Prop) : Prop where
 go : H -> G
class Stp2 (G : Prop) (H1 H2 : outParam Prop) : Prop where
 go : H1 -> H2 -> G
theorem stp {G H : Prop} [i : Stp G H] (h : H) : G := i.go h
theorem stpK {G H : Prop} [i : StpK G H] (h : H) : G := i.go h
theorem stpC {G H : Prop} [i : StpC G H] (h : H) : G := i.go h
theorem stp2 {G H1 H2 : Prop} [i : Stp2 G H1 H2] (h1 : H1) (h2 : H2) : G := i.go h1 h2
section
variable {P : Program} {c : Cfg} {Q : Exit -> Fs -> Prop} {s : Fs} {K : Fs -> Prop} {ops : Array Oper} {o : Oper} {rest : List Oper} {Φ : FV -> Heap -> Prop} {id i : Nat} {x y b : Code} {res : List ResultVar} {r : FV} {H H' : Heap} {T E : Fs -> Prop} {p : Prop} [Decidable p] {d : Bool} {n k : Nat} {H0 Hn : Heap} {rs : List Loc} {As : List Heap}
instance : Stp (a3w P c (.seq x y) Q s) (a3w P c x (KSeq P c y Q) s) := ⟨h1b⟩
instance : Stp (a3w P c (.block id b) Q s) (a3w P c b (KBlk id Q) s) := ⟨g2d⟩
instance : StpK (a3w P c (.region id ops false) Q s) (∀ K : Fs -> Prop, Kont Q K -> wOps P c ops ops.toList (Fend c.keep ops K) s) := ⟨g2a⟩
instance : Stp (a3w P c .skip Q s) (Q .normal s) := ⟨e9j⟩
instance : Stp (a3w P c .ret Q s) (Q .ret s) := ⟨g1z⟩
instance : Stp (a3w P c (.exit id) Q s) (Q (.exit id) s) := ⟨e9l⟩
instance {v : Operand} : StpC (a3w P c (.cond v x y) Q s) (∀ T E : Fs -> Prop, KT P c x Q T -> KT P c y Q E -> b2a T E s (b7p s v)) := ⟨g2c⟩
instance : Stp (KSeq P c y Q .normal s) (a3w P c y Q s) := ⟨kseq⟩
instance : Stp (KSeq P c y Q .ret s) (Q .ret s) := ⟨f5l⟩
instance : Stp (KSeq P c y Q (.exit i) s) (Q (.exit i) s) := ⟨f5m⟩
instance : Stp (KBlk id Q .normal s) (Q .normal s) := ⟨kblk⟩
instance : Stp (KBlk id Q .ret s) (Q .ret s) := ⟨f5n⟩
instance : Stp (KBlk id Q (.exit id) s) (Q .normal s) := ⟨d8o⟩
instance {σ : Type} {st : σ -> Fs} {μ : σ -> Nat} {x : σ} : Stp (c0x c st μ x Q .ret s) (Q .ret s) := ⟨e6d⟩
instance {σ : Type} {st : σ -> Fs} {μ : σ -> Nat} {x : σ} : Stp (c0x c st μ x Q (.exit i) s) (Q (.exit i) s) := ⟨e6e⟩
instance : Stp (PEnd P res r .ret s) (PFin (b6p s.H (resL P s res)) r) := ⟨f4p⟩
instance : Stp (PEnd P res r .normal s) (PFin (b6p s.H (resL P s res)) r) := ⟨f4q⟩
instance : Stp (NEnd P res r .ret s) (PFin (b1x s.H (resL P s res)) r) := ⟨f4x⟩
instance : Stp (NEnd P res r .normal s) (PFin (b1x s.H (resL P s res)) r) := ⟨f4y⟩
instance : Stp (LEnd P res H Φ .ret s) (LFin H Φ s.H (resL P s res)) := ⟨f5h⟩
instance : Stp (LEnd P res H Φ .normal s) (LFin H Φ s.H (resL P s res)) := ⟨f5i⟩
instance : Stp (KEnd P res r H' .ret s) (KFin r H' s.H (resL P s res)) := ⟨e1u⟩
instance : Stp (KEnd P res r H' .normal s) (KFin r H' s.H (resL P s res)) := ⟨e1v⟩
instance : Stp (GOp P c ops o rest K s (some true)) (DoOp P c ops o rest K s (a2t s o)) := ⟨g9c⟩
instance : Stp (GOp P c ops o rest K s (some false)) (StK P c ops rest K (putD c o (.tup []) s)) := ⟨g9d⟩
instance : Stp (b2a T E s (some true)) (T s) := ⟨g1m⟩
instance : Stp (b2a T E s (some false)) (E s) := ⟨g1n⟩
instance : Stp2 (GOp P c ops o rest K s (some d)) (d = true -> DoOp P c ops o rest K s (a2t s o)) (d = false -> StK P c ops rest K (putD c o (.tup []) s)) := ⟨e1z⟩
instance : Stp2 (HG P c ops n K H0 rs k o rest s As Hn (some d)) (d = true -> HDo P c ops n K H0 rs k o rest s As Hn (a2t s o)) (d = false -> HNx P c ops n K H0 rs k o rest s As (some (.tup [], noH))) := ⟨d3o⟩
instance : Stp2 (b2a T E s (some d)) (d = true -> T s) (d = false -> E s) := ⟨e3a⟩
instance : Stp2 (GOp P c ops o rest K s (some !d)) (d = false -> DoOp P c ops o rest K s (a2t s o)) (d = true -> StK P c ops rest K (putD c o (.tup []) s)) := ⟨c6o⟩
instance : Stp2 (HG P c ops n K H0 rs k o rest s As Hn (some !d)) (d = false -> HDo P c ops n K H0 rs k o rest s As Hn (a2t s o)) (d = true -> HNx P c ops n K H0 rs k o rest s As (some (.tup [], noH))) := ⟨c2a⟩
instance : Stp2 (b2a T E s (some !d)) (d = false -> T s) (d = true -> E s) := ⟨e2z⟩
instance : Stp2 (GOp P c ops o rest K s (some (decide p))) (p -> DoOp P c ops o rest K s (a2t s o)) (¬ p -> StK P c ops rest K (putD c o (.tup []) s)) := ⟨d8y⟩
instance : Stp2 (HG P c ops n K H0 rs k o rest s As Hn (some (decide p))) (p -> HDo P c ops n K H0 rs k o rest s As Hn (a2t s o)) (¬ p -> HNx P c ops n K H0 rs k o rest s As (some (.tup [], noH))) := ⟨d3n⟩
instance : Stp2 (b2a T E s (some (decide p))) (p -> T s) (¬ p -> E s) := ⟨g1o⟩
instance : Stp2 (GOp P c ops o rest K s (some !decide p)) (¬ p -> DoOp P c ops o rest K s (a2t s o)) (p -> StK P c ops rest K (putD c o (.tup []) s)) := ⟨d3s⟩
instance : Stp2 (HG P c ops n K H0 rs k o rest s As Hn (some !decide p)) (¬ p -> HDo P c ops n K H0 rs k o rest s As Hn (a2t s o)) (p -> HNx P c ops n K H0 rs k o rest s As (some (.tup [], noH))) := ⟨c8y⟩
instance : Stp2 (b2a T E s (some !decide p)) (¬ p -> T s) (p -> E s) := ⟨e8o⟩
end
end Go.FM
namespace Go.FM
open Go
set_option maxRecDepth 100000
set_option linter.defProp false
def DEFO := And.intro @Go.FM.a0n (And.intro @Go.FM.Fs.init.eq_def (And.intro @Go.FM.Fs.get.eq_def (And.intro @Go.FM.Fs.put.eq_def (And.intro @Go.FM.Fs.clean.eq_def (And.intro @Go.FM.lk.eq_1 (And.intro @Go.FM.lk.eq_2 (And.intro @Go.FM.upd.eq_def (And.intro @Go.FM.ext.eq_def (And.intro @Go.FM.noH.eq_def (And.intro @Go.FM.cv1.eq_def (And.intro @Go.FM.cv.eq_def (And.intro @Go.FM.rv.eq_def (And.intro @Go.FM.FV.isU.eq_def (And.intro @Go.FM.FV.cellV.eq_def (And.intro @Go.FM.FV.cellsL.eq_def (And.intro @Go.FM.FV.storable.eq_def (And.intro @Go.FM.b4i.eq_def (And.intro @Go.FM.b6w.eq_def (And.intro @Go.FM.b6v.eq_def (And.intro @Go.FM.fLen.eq_def (And.intro @Go.FM.fBin.eq_def (And.intro @Go.FM.fUn.eq_def (And.intro @Go.FM.c4g.eq_def (And.intro @Go.FM.b7o.eq_def (And.intro @Go.FM.b6u.eq_def (And.intro @Go.FM.a8s.eq_1 (And.intro @Go.FM.a8s.eq_2 (And.intro @Go.FM.b2x.eq_1 (And.intro @Go.FM.b2x.eq_2 (And.intro @Go.FM.pv.eq_def (And.intro @Go.FM.pv1.eq_def (And.intro @Go.FM.pv2.eq_def (And.intro @Go.FM.wv.eq_def (And.intro @Go.FM.b3w.eq_def (And.intro @Go.FM.wBox.eq_def (And.intro @Go.FM.b3u.eq_def (And.intro @Go.FM.a7z.eq_def (And.intro @Go.FM.b3v.eq_def (And.intro @Go.FM.b2d.eq_def (And.intro @Go.FM.b1o.eq_def (And.intro @Go.FM.wApp.eq_def (And.intro @Go.FM.srcA.eq_def (And.intro @Go.FM.a7o.eq_1 (And.intro @Go.FM.a7o.eq_2 (And.intro @Go.FM.upds.eq_def (And.intro @List.foldl_cons.{0,0} (And.intro @List.foldl_nil.{0,0} (And.intro @Go.FM.b2y.eq_def (And.intro @Go.FM.fNil.eq_def (And.intro @Go.FM.fUn2.eq_def (And.intro @Go.FM.c4h.eq_def (And.intro @Go.FM.fCmp.eq_def (And.intro @Go.FM.c2g.eq_def (And.intro @Go.FM.eqK.eq_1 (And.intro @Go.FM.eqK.eq_2 (And.intro @Go.FM.a4p.eq_1 (And.intro @Go.FM.a4p.eq_2 (And.intro @Go.FM.a4p.eq_3 (And.intro @Go.FM.eqV.eq_1 (And.intro @Go.FM.eqV.eq_2 (And.intro @Go.FM.eqV.eq_3 (And.intro @Go.FM.eqV.eq_4 (And.intro @Go.FM.FV.kd.eq_def (And.intro @Go.FM.c4i.eq_def (And.intro @Go.FM.nilV.eq_def (And.intro @Go.FM.putD.eq_def (And.intro @Go.FM.b3o.eq_def (And.intro @Go.FM.a2t.eq_def (And.intro @Go.FM.a3q.eq_def (And.intro @Go.FM.b1e.eq_1 (And.intro @Go.FM.b1e.eq_2 (And.intro @Go.FM.a5m.eq_def (And.intro @Go.FM.b7p.eq_def (And.intro @Go.FM.resV.eq_def (And.intro @Go.FM.resL.eq_1 (And.intro @Go.FM.resL.eq_2 (And.intro @Go.FM.a4i.eq_def (And.intro @Go.FM.StK.eq_def (And.intro @Go.FM.b4l (And.intro @Go.FM.b2c (And.intro @Go.FM.e1a (And.intro @Go.FM.e1b (And.intro @Go.FM.c8b (And.intro @Go.FM.c8c (And.intro @Go.FM.c2b.eq_def (And.intro @Go.FM.HG_t (And.intro @Go.FM.HG_f (And.intro @Go.FM.e0y (And.intro @Go.FM.e0z (And.intro @Go.FM.nl.eq_1 (And.intro @Go.FM.nl.eq_2 (And.intro @Go.FM.nl.eq_3 (And.intro @Go.FM.nl.eq_4 (And.intro @Go.FM.nl.eq_5 (And.intro @Go.FM.nl.eq_6 (And.intro @Go.FM.nl.eq_7 (And.intro @Go.FM.nl.eq_8 (And.intro @Go.FM.nl.eq_9 (And.intro @Go.FM.nl.eq_10 (And.intro @Go.FM.nl.eq_11 (And.intro @Go.FM.nl.eq_12 (And.intro @Go.FM.nl.eq_13 (And.intro @Go.FM.nl.eq_14 (And.intro @Go.FM.nl.eq_15 (And.intro @Go.FM.nl.eq_16 (And.intro @Go.FM.nl.eq_17 (And.intro @Go.FM.nls.eq_1 (And.intro @Go.FM.nls.eq_2 (And.intro @Go.FM.nlss.eq_1 (And.intro @Go.FM.nlss.eq_2 (And.intro @Go.FM.frz.eq_1 (And.intro @Go.FM.frz.eq_2 (And.intro @Go.FM.frz.eq_3 (And.intro @Go.FM.frz.eq_4 (And.intro @Go.FM.frz.eq_5 (And.intro @Go.FM.frzs.eq_1 (And.intro @Go.FM.frzs.eq_2 (And.intro @Go.FM.frzs.eq_3 (And.intro @Go.FM.frzR.eq_1 (And.intro @Go.FM.frzR.eq_2 (And.intro @Go.FM.frzR.eq_3 (And.intro @Go.FM.asR.eq_1 (And.intro @Go.FM.asR.eq_2 (And.intro @Go.FM.asR.eq_3 (And.intro @Go.FM.asR.eq_4 (And.intro @Go.FM.asRs.eq_1 (And.intro @Go.FM.asRs.eq_2 (And.intro @Go.FM.Fend.eq_def (And.intro @Go.FM.c7x (And.intro @Go.FM.b5d (And.intro @Go.FM.b2u (And.intro @Go.FM.frzN.eq_def (And.intro @Go.FM.nf.eq_1 (And.intro @Go.FM.nf.eq_2 (And.intro @Go.FM.nf.eq_3 (And.intro @Go.FM.nf.eq_4 (And.intro @Go.FM.nf.eq_5 (And.intro @Go.FM.nf.eq_6 (And.intro @Go.FM.nf.eq_7 (And.intro @Go.FM.nf.eq_8 (And.intro @Go.FM.nf.eq_9 (And.intro @Go.FM.nf.eq_10 (And.intro @Go.FM.nf.eq_11 (And.intro @Go.FM.nf.eq_12 (And.intro @Go.FM.nf.eq_13 (And.intro @Go.FM.nf.eq_14 (And.intro @Go.FM.nf.eq_15 (And.intro @Go.FM.nf.eq_16 (And.intro @Go.FM.nf.eq_17 (And.intro @Go.FM.nfs.eq_1 (And.intro @Go.FM.nfs.eq_2 (And.intro @Go.FM.a5r (And.intro @Go.FM.a4l (And.intro @Go.FM.a9k.eq_def (@Go.FM.b3p.eq_def)))))))))))))))))))))))))))))))))))))))))))))))))))))))))))))))))))))))))))))))))))))))))))))))))))))))))))))))))))))))))))))))))))))))))))))))))))))))))))
def SIMF := And.intro @Go.FM.b8e (And.intro @Go.FM.c6c (And.intro @Go.FM.d2l (And.intro @Go.FM.b1v (And.intro @Go.FM.nlss.eq_1 (And.intro @Go.FM.nlss.eq_2 (And.intro @Go.FM.nls.eq_1 (And.intro @Go.FM.nls.eq_2 (And.intro @Go.FM.nl.eq_1 (And.intro @Go.FM.nl.eq_2 (And.intro @Go.FM.nl.eq_3 (And.intro @Go.FM.nl.eq_4 (And.intro @Go.FM.nl.eq_5 (And.intro @Go.FM.nl.eq_6 (And.intro @Go.FM.nl.eq_7 (And.intro @Go.FM.nl.eq_8 (And.intro @Go.FM.nl.eq_9 (And.intro @Go.FM.nl.eq_10 (And.intro @Go.FM.nl.eq_11 (And.intro @Go.FM.nl.eq_12 (And.intro @Go.FM.nl.eq_13 (And.intro @Go.FM.nl.eq_14 (And.intro @Go.FM.nl.eq_15 (And.intro @Go.FM.nl.eq_16 (And.intro @Go.FM.nl.eq_17 (And.intro @Go.FM.a9u.eq_1 (And.intro @Go.FM.a9u.eq_2 (And.intro @Go.FM.a9u.eq_3 (And.intro @Go.FM.simV.eq_def (And.intro @Go.FM.simT.eq_1 (And.intro @Go.FM.simT.eq_2 (And.intro @Go.FM.simH.eq_1 (And.intro @Go.FM.simH.eq_2 (And.intro @Go.FM.simO.eq_def (And.intro @Go.FM.renO.eq_def (And.intro @Go.FM.innO.eq_def (And.intro @Go.FM.ren.eq_1 (And.intro @Go.FM.ren.eq_2 (And.intro @Go.FM.ren.eq_3 (And.intro @Go.FM.ren.eq_4 (And.intro @Go.FM.ren.eq_5 (And.intro @Go.FM.ren.eq_6 (And.intro @Go.FM.ren.eq_7 (And.intro @Go.FM.inn.eq_1 (And.intro @Go.FM.inn.eq_2 (And.intro @Go.FM.inn.eq_3 (And.intro @Go.FM.inn.eq_4 (And.intro @Go.FM.inn.eq_5 (And.intro @Go.FM.inn.eq_6 (And.intro @Go.FM.inn.eq_7 (And.intro @Go.FM.inn.eq_8 (And.intro @Go.FM.inn.eq_9 (And.intro @Go.FM.rens.eq_1 (And.intro @Go.FM.rens.eq_2 (And.intro @Go.FM.inns.eq_1 (And.intro @Go.FM.inns.eq_2 (And.intro @Go.FM.renss.eq_1 (And.intro @Go.FM.renss.eq_2 (And.intro @Go.FM.a8e.eq_1 (And.intro @Go.FM.a8e.eq_2 (And.intro @Go.FM.rene.eq_1 (And.intro @Go.FM.rene.eq_2 (And.intro @Go.FM.inne.eq_1 (And.intro @Go.FM.inne.eq_2 (And.intro @Go.FM.bk.eq_1 (And.intro @Go.FM.bk.eq_2 (And.intro @Go.FM.hpL.eq_1 (And.intro @Go.FM.hpL.eq_2 (And.intro @Go.FM.upd.eq_def (And.intro @Go.FM.noH.eq_def (And.intro @Go.FM.ext.eq_def (And.intro @Go.FM.lk.eq_1 (And.intro @Go.FM.lk.eq_2 (And.intro @Go.FM.b4q (And.intro @Go.FM.b5a (And.intro @Go.FM.b0e (@Go.FM.b0g))))))))))))))))))))))))))))))))))))))))))))))))))))))))))))))))))))))))))))
end Go.FM
namespace Go.FM
open Go
section
variable {P : Program} {c : Cfg} {Q : Exit -> Fs -> Prop} {s : Fs} {K : Fs -> Prop} {ops : Array Oper} {o : Oper} {rest : List Oper}
theorem e9m {n k : Nat} {H0 : Heap} {rs : List Loc} {As : List Heap} (Hn : Heap) (hk : k < n) (hd : c2h ops n k o = true) (hneed : ∀ l ob, Hn l = some ob -> H0 l = some ob \/ (l ∉ rs /\ ∃ j Aj, As[j]? = some Aj /\ a7y o j = true /\ Aj l = some ob))
 (h : HG P c ops n K H0 rs k o rest s As Hn (a3q ops o s)) : awH P c ops n K H0 rs k (o :: rest) s As := by
 simp only [awH, hk, if_true]
 unfold HG HDo HCl at h
 have hgs : a3q ops o { s with H := Hn } = a3q ops o s := rfl
 have hcs : a2t { s with H := Hn } o = a2t s o := rfl
 cases hg : a3q ops o s with
 | none => rw [hg] at h; exact h.elim
 | some b =>
   rw [hg] at h
   cases b
   . simp only [HNx] at h
     cases hdst : o.dst with
     | none => rw [hdst] at h; exact h.elim
     | some d =>
       rw [hdst] at h
       obtain ⟨h1, h2, h3⟩ := h
       exact ⟨d, _, noH, Hn, _, (c7l (hgs.trans hg) hdst h1).two, hd, fun l hl => .inr (h2 l hl), fun _ h => h.elim, fun l ob hl => (hneed l ob hl).imp_right .inr, h3⟩
   . simp only at h
     cases hc : a2t s o with
     | none =>
       rw [hc] at h
       simp only [HNx] at h
       split at h
       . rename_i v A d hm hdst
         obtain ⟨h1, h2, h3⟩ := h
         exact ⟨d, v, A, Hn, _, (b8k (hgs.trans hg) (hcs.trans hc) hdst h1 hm).two, hd, fun l hl => .inr (h2 l hl), fun _ h => h.elim, fun l ob hl => (hneed l ob hl).imp_right .inr, h3⟩
       . exact h.elim
     | some x =>
       obtain ⟨f, A⟩ := x
       rw [hc] at h
       simp only at h
       obtain ⟨hf, v, B, hfc, h⟩ := h
       simp only [HNx] at h
       cases hdst : o.dst with
       | none => rw [hdst] at h; exact h.elim
       | some d =>
         rw [hdst] at h
         obtain ⟨h1, h2, h3⟩ := h
         exact ⟨d, v, B, Hn, _, (c2n (hgs.trans hg) (hcs.trans hc) hf hdst h1 hfc).two, hd, fun l hl => .inr (h2 l hl), fun _ h => h.elim, fun l ob hl => (hneed l ob hl).imp_right .inr, h3⟩
theorem e9n {n k : Nat} {H0 : Heap} {rs : List Loc} {As : List Heap} (j : Nat) (l0 : Loc) (ob0 : FO) (hk : k < n) (hd : c2h ops n k o = true) (hj : As[j]? = some (upd noH l0 ob0)) (hw : a7y o j = true) (hl : l0 ∉ rs)
 (h : HG P c ops n K H0 rs k o rest s As (upd H0 l0 ob0) (a3q ops o s)) : awH P c ops n K H0 rs k (o :: rest) s As :=
 e9m (upd H0 l0 ob0) hk hd (fun l ob hl' => by
  unfold upd at hl'
  split at hl'
  . rename_i e
    subst e
    exact .inr ⟨hl, j, _, hj, hw, by rw [<- hl']; simp [upd]⟩
  . exact .inl hl') h
theorem hclH {n k : Nat} {H0 Hn : Heap} {rs : List Loc} {As : List Heap} {f : FuncId} {b : Bool} {A : List FV} (h : HCl P c ops n K H0 rs k o rest s As Hn f b A) : HCl P c ops n K H0 rs k o rest s As Hn f b A := h
theorem hfc0 {n k : Nat} {H0 Hn : Heap} {rs : List Loc} {As : List Heap} {f : FuncId} {A : List FV} {v : FV} (hp : ∀ H2, HSub Hn H2 -> FC P c.G f A H2 v H2) (h : HNx P c ops n K H0 rs k o rest s As (some (v, noH))) : HCl P c ops n K H0 rs k o rest s As Hn f true A :=
 ⟨rfl, v, noH, fun H2 hs _ => by rw [a0n]; exact hp H2 hs, h⟩
end
end Go.FM
namespace Go.FM
open Go Go.ChangeShapes Go.WideShapes Go.RowKit Go.ChangeAt
theorem PC.law {P : Program} {G : List (Nat × List Value)} {f : FuncId} {args : List FV} (h : PC P G f args (.bool true)) {w : World} {vs : List Value} (hG : a7r G (fun b => b < w.heap.size) w)
 (hv : RFs w (fun b => b < w.heap.size) (fun _ => False) (fun _ => (0, 0)) args vs) : Calls P f vs.toArray w fun e w' => e = .returned (.bool true) /\ Below w.heap.size w w' := by
 refine (h w _ (fun _ => (0, 0)) vs (fun _ h => h) hG (hv.keep (fun _ h => h) (fun _ _ => rfl) (fun _ h => h.elim) (fun _ _ => rfl)) (b0h _ _ _)).mono ?_
 rintro e w' ⟨v, F', m', rfl, h1, h2, h3, h4, h5, h6, h7, h8, h9, h10, h11⟩
 refine ⟨?_, h9, h10, h11, h7, fun y hy => h8 y hy fun l ⟨_, h, _⟩ => by cases h⟩
 generalize hb : FV.bool true = b at h4
 cases h4 <;> cases hb
 rfl
theorem d8z {P : Program} {W : World} {name : String} {k : IntKind} {zs : List Int} {g : Nat} (h : Lib.TabIs P W name k zs) (hg : P.globalNamed name = some g) (hz : 0 < zs.length) : a7r [(g, zs.map fun z => Value.int k z)] (fun b => b < W.heap.size) W := by
 have hc : ∀ j v, (zs.map fun z => Value.int k z)[j]? = some v -> W.cell? ⟨g, j, none⟩ = some v := fun j v hv => by
  have := World.var?_cell hg h j
  rw [this]
  simpa using hv
 have hlt : g < W.heap.size := by
  have h0 := hc 0 (.int k zs[0]) (by simp [List.getElem?_eq_getElem hz])
  rcases Nat.lt_or_ge g W.heap.size with h' | h'
  . exact h'
  . exfalso
    have : W.heap[g]? = none := by simp [h']
    simp [World.cell?, this] at h0
 intro p hp
 simp only [List.mem_singleton] at hp
 subst hp
 exact ⟨hlt, hlt, hc⟩
mutual
def bulk {H : Type} : DataW H -> Nat
 | .lit (.string bytes) => bytes.length + 1
 | .lit _ => 1
 | .nil => 1
 | .ptr d => bulk d + 1
 | .slice elems spare => a8k elems + a8k spare + 1
 | .agg parts => a8k parts + 1
 | .iface _ d => bulk d + 1
 | .map entries => a8j entries + 1
 | .held _ => 1
def a8k {H : Type} : List (DataW H) -> Nat
 | [] => 0
 | d :: r => bulk d + a8k r
def a8j {H : Type} : List (Lit × DataW H) -> Nat
 | [] => 0
 | x :: r => a8i x + a8j r
def a8i {H : Type} : Lit × DataW H -> Nat
 | (.string bytes, d) => bytes.length + bulk d + 1
 | (_, d) => bulk d + 1
end
theorem c0s {H : Type} : ∀ {l : List (DataW H)} {d : DataW H}, d ∈ l -> bulk d <= a8k l
 | [], d, h => by cases h
 | x :: r, d, h => by
   simp only [a8k]
   rcases List.mem_cons.1 h with rfl | h
   . omega
   . have := c0s h; omega
theorem e0k {H : Type} (d : DataW H) : 0 < bulk d := by
 cases d with
 | lit l => cases l <;> simp [bulk]
 | _ => simp [bulk]
theorem c7r {H : Type} : ∀ l : List (DataW H), l.length <= a8k l
 | [] => Nat.le_refl _
 | x :: r => by
   have := c7r r
   have := e0k x
   simp only [a8k, List.length_cons]; omega
def Rd (P : Program) (t : TypeId) {α : Type} (sz : Nat) (f : α -> List FV) (p : Nat -> α -> Prop) : Prop :=
 P.cellsOf t = sz /\ (∀ x, (f x).length = sz) /\ ∀ (H : Type) (enc : TypeId × Value -> H) (w : World) (spare : Nat -> Bool) (held : Bool) (fuel : Nat) (cs : List Value) (y : DataW H × List MemPlace),
  DataW.trod enc P w 0 spare held fuel t cs = some y -> ∀ N, bulk y.1 <= N -> ∃ x, p N x /\ RFs w (fun b => b < w.heap.size) (fun _ => False) (fun _ => (0, 0)) (f x) cs
def RdF (P : Program) (fs : List Field) (off : Nat) {α : Type} (sz : Nat) (f : α -> List FV) (p : Nat -> α -> Prop) : Prop :=
 (∀ x, (f x).length = sz) /\ ∀ (H : Type) (enc : TypeId × Value -> H) (w : World) (spare : Nat -> Bool) (held : Bool) (fuel : Nat) (cs : List Value) (N : Nat),
  (∀ (i : Nat) (f : Field), fs[i]? = some f -> ∃ y, DataW.trod enc P w 0 spare held fuel f.type ((cs.drop f.offset).take (P.cellsOf f.type)) = some y /\ bulk y.1 <= N) -> cs.length = off + sz -> ∃ x, p N x /\ RFs w (fun b => b < w.heap.size) (fun _ => False) (fun _ => (0, 0)) (f x) (cs.drop off)
section
variable {P : Program} {t e : TypeId}
theorem e1l {k : IntKind} (ht : P.underlying t = some (.int k)) (hc : P.cellsOf t = 1) : Rd P t 1 (fun n : Int => [.int k n]) (fun _ n => k.min <= n /\ n <= k.max) := by
 refine ⟨hc, fun _ => rfl, fun H enc w spare held fuel cs y h N _ => ?_⟩
 obtain ⟨n, rfl, _, hw⟩ := DataW.trod_int ht h
 exact ⟨n, by simpa [Lit.wf] using hw, .cons _ _ _ _ (.int k n) .nil⟩
theorem f4c (ht : P.underlying t = some .string) (hc : P.cellsOf t = 1) : Rd P t 1 (fun s : ByteArray => [.str s]) (fun N s => s.size <= maxLen /\ s.size <= N) := by
 refine ⟨hc, fun _ => rfl, fun H enc w spare held fuel cs y h N hN => ?_⟩
 obtain ⟨s, rfl, rfl, hs⟩ := DataW.trod_string ht h
 simp only [bulk, Array.length_toList] at hN
 exact ⟨s, ⟨hs, by have e : s.data.size = s.size := rfl; omega⟩, .cons _ _ _ _ (.str s) .nil⟩
theorem b9n {off : Nat} : RdF P [] off 0 (fun _ : Unit => []) (fun _ _ => True) := by
 refine ⟨fun _ => rfl, fun H enc w spare held fuel cs N h hl => ⟨(), trivial, ?_⟩⟩
 rw [List.drop_eq_nil_of_le (by omega)]
 exact .nil
theorem a5i {fl : Field} {fs : List Field} {off sz1 sz2 : Nat} {α β : Type} {f : α -> List FV} {p : Nat -> α -> Prop} {g : β -> List FV} {q : Nat -> β -> Prop} (ho : fl.offset = off) (h1 : Rd P fl.type sz1 f p) (h2 : RdF P fs (off + sz1) sz2 g q) :
 RdF P (fl :: fs) off (sz1 + sz2) (fun x : α × β => f x.1 ++ g x.2) (fun N x => p N x.1 /\ q N x.2) := by
 refine ⟨fun x => by simp [h1.2.1, h2.1], fun H enc w spare held fuel cs N h hl => ?_⟩
 obtain ⟨y, hy, hN⟩ := h 0 fl rfl
 obtain ⟨a, ha, hra⟩ := h1.2.2 H enc w spare held fuel _ y hy N hN
 obtain ⟨b, hb, hrb⟩ := h2.2 H enc w spare held fuel cs N (fun i f' hf => h (i + 1) f' (by simpa using hf)) (by omega)
 refine ⟨(a, b), ⟨ha, hb⟩, ?_⟩
 rw [ho, h1.1] at hra
 have : cs.drop off = (cs.drop off).take sz1 ++ cs.drop (off + sz1) := by
  rw [<- List.drop_drop]; exact (List.take_append_drop sz1 _).symm
 rw [this]
 exact hra.append hrb
theorem b2i {fs : Array Field} {α β : Type} {sz : Nat} {f : α -> List FV} {p : Nat -> α -> Prop} (ht : P.underlying t = some (.struct fs)) (hc : P.cellsOf t = sz) (h : RdF P fs.toList 0 sz f p) (g : α -> β) {f' : β -> List FV} {p' : Nat -> β -> Prop} (hf : ∀ x, f' (g x) = f x) (hp : ∀ N x, p N x -> p' N (g x)) (hl : ∀ y, (f' y).length = sz) : Rd P t sz f' p' := by
 refine ⟨hc, hl, fun H enc w spare held fuel cs y hy N hN => ?_⟩
 obtain ⟨xs, n, rfl, rfl, h1, h2, h3⟩ := DataW.trod_struct ht hy
 simp only [bulk] at hN
 obtain ⟨x, hx, hr⟩ := h.2 H enc w spare held n cs N (fun i fl hfl => by
  have hi : i < xs.length := by
   rw [h2]
   have := (List.getElem?_eq_some_iff.1 hfl).1
   simpa using this
  refine ⟨xs[i], by rw [h3 i fl (by simpa using hfl), List.getElem?_eq_getElem hi], ?_⟩
  have := c0s (l := xs.map (·.1)) (d := xs[i].1) (List.mem_map.2 ⟨_, List.getElem_mem hi, rfl⟩)
  omega) (by omega)
 exact ⟨g x, hp N x hx, by rw [hf]; simpa using hr⟩
theorem e1m {w : World} {α : Type} {f : α -> List FV} {p : α -> Prop} {g : Nat -> List Value} : ∀ n, (∀ i, i < n -> ∃ x, p x /\ RFs w (fun b => b < w.heap.size) (fun _ => False) (fun _ => (0, 0)) (f x) (g i)) ->
 ∃ xs : List α, xs.length = n /\ (∀ x ∈ xs, p x) /\ RFs w (fun b => b < w.heap.size) (fun _ => False) (fun _ => (0, 0)) (xs.map f).flatten ((List.range n).map g).flatten
 | 0, _ => ⟨[], rfl, fun _ h => (by cases h), .nil⟩
 | n + 1, h => by
   obtain ⟨xs, h1, h2, h3⟩ := e1m n fun i hi => h i (by omega)
   obtain ⟨x, hx, hr⟩ := h n (by omega)
   refine ⟨xs ++ [x], by simp [h1], fun y hy => ?_, ?_⟩
   . rcases List.mem_append.1 hy with hy | hy
     . exact h2 y hy
     . rw [List.mem_singleton.1 hy]; exact hx
   . rw [List.range_succ]
     simpa using h3.append hr
theorem d4d {sz : Nat} (h0 : 0 < sz) {g : Nat -> List Value} (hg : ∀ i, (g i).length = sz) : ∀ n j v, (((List.range n).map g).flatten)[j]? = some v -> j / sz < n /\ (g (j / sz))[j % sz]? = some v
 | 0, j, v, h => by simp at h
 | n + 1, j, v, h => by
   rw [List.range_succ, List.map_append, List.flatten_append] at h
   have hl : (((List.range n).map g).flatten).length = n * sz := by
    clear h
    induction n with
    | zero => simp
    | succ n ih => rw [List.range_succ, List.map_append, List.flatten_append, List.length_append, ih]; simp [hg, Nat.succ_mul]
   rcases Nat.lt_or_ge j (n * sz) with hj | hj
   . rw [List.getElem?_append_left (by omega)] at h
     obtain ⟨a, b⟩ := d4d h0 hg n j v h
     exact ⟨by omega, b⟩
   . rw [List.getElem?_append_right (by omega), hl] at h
     have h' : (g n)[j - n * sz]? = some v := by simpa using h
     have hlt := (List.getElem?_eq_some_iff.1 h').1
     rw [hg] at hlt
     have e : j = (j - n * sz) + n * sz := by omega
     have e1 : j / sz = n := by rw [e, Nat.add_mul_div_right _ _ h0, Nat.div_eq_of_lt hlt]; omega
     have e2 : j % sz = j - n * sz := by
      rw [show j % sz = ((j - n * sz) + n * sz) % sz by rw [<- e], Nat.add_mul_mod_self_right, Nat.mod_eq_of_lt hlt]
     exact ⟨by omega, by rw [e1, e2]; exact h'⟩
theorem b3q {w : World} {a : Addr} {n : Nat} {cs : List Value} (h : w.cells? 0 a n = some cs) : cs.length = n /\ ∀ j v, cs[j]? = some v -> w.cell? (a.add j) = some v := by
 unfold World.cells? at h
 split at h
 . have hl := Lib.mapM_length h
   refine ⟨by simpa using hl, fun j v hv => ?_⟩
   have hj : j < n := by
    have := (List.getElem?_eq_some_iff.1 hv).1
    rw [hl] at this; simpa using this
   obtain ⟨b, hb, hf⟩ := Lib.mapM_at h j j (by simp [hj])
   rw [hv] at hb
   obtain rfl := Option.some.inj hb
   exact hf
 . cases h
theorem b2j {α : Type} {sz : Nat} {f : α -> List FV} {p : Nat -> α -> Prop} (ht : P.underlying t = some (.slice e)) (hc : P.cellsOf t = 1) (h0 : 0 < sz) (h : Rd P e sz f p) : Rd P t 1 (fun xs : List α => [.list sz (xs.map f)]) (fun N xs => xs.length <= N /\ ∀ x ∈ xs, p N x) := by
 obtain ⟨hce, hlen, hrd⟩ := h
 refine ⟨hc, fun _ => rfl, fun H enc w spare held fuel cs y hy N hN => ?_⟩
 rcases DataW.trod_slice ht hy with ⟨rfl, _⟩ | ⟨a, len, cap, elems, rest, n, rfl, rfl, rfl, hb, hl, hm, hel, hat, _, _⟩
 . exact ⟨[], ⟨Nat.zero_le _, fun _ h => (by cases h)⟩, .cons _ _ _ _ (.list sz [] none 0 [] (by simp) (by simp) (by simp) .nil) .nil⟩
 . simp only [bulk] at hN
   have hmem : ∀ i (hi : i < len), bulk (elems[i]'(by omega)).1 <= N := fun i hi => by
    have := c0s (l := elems.map (·.1)) (d := (elems[i]'(by omega)).1) (List.mem_map.2 ⟨_, List.getElem_mem _, rfl⟩)
    omega
   have hlN : len <= N := by
    have := c7r (elems.map (·.1))
    simp only [List.length_map] at this
    omega
   have each : ∀ i, i < len -> ∃ c, w.cells? 0 (a.add (i * sz)) sz = some c /\ ∃ x, p N x /\ RFs w (fun b => b < w.heap.size) (fun _ => False) (fun _ => (0, 0)) (f x) c := fun i hi => by
    have := hat i hi
    rw [List.getElem?_eq_getElem (by omega), Option.bind_eq_some_iff, hce] at this
    obtain ⟨c, h1, h2⟩ := this
    obtain ⟨x, hx, hr⟩ := hrd H enc w spare held n c _ h2 N (hmem i hi)
    exact ⟨c, h1, x, hx, hr⟩
   let g : Nat -> List Value := fun i => if hi : i < len then (each i hi).choose else List.replicate sz default
   have hg : ∀ i (hi : i < len), g i = (each i hi).choose := fun i hi => by simp [g, hi]
   have hgl : ∀ i, (g i).length = sz := fun i => by
    by_cases hi : i < len
    . rw [hg i hi]; exact (b3q (each i hi).choose_spec.1).1
    . simp [g, hi]
   obtain ⟨xs, k1, k2, k3⟩ := e1m (p := p N) (f := f) (w := w) (g := g) len fun i hi => by
    rw [hg i hi]; exact (each i hi).choose_spec.2
   have hcell : ∀ (j : Nat) (v : Value), (((List.range len).map g).flatten)[j]? = some v -> w.cell? (a.add j) = some v := fun j v hv => by
    obtain ⟨d1, d2⟩ := d4d h0 hgl len j v hv
    rw [hg _ d1] at d2
    have := (b3q (each _ d1).choose_spec.1).2 _ _ d2
    rw [b7h] at this
    rwa [show j / sz * sz + j % sz = j by rw [Nat.mul_comm]; exact Nat.div_add_mod j sz] at this
   refine ⟨xs, ⟨by omega, k2⟩, .cons _ _ _ _ ?_ .nil⟩
   have := RF.list (w := w) (F := fun b => b < w.heap.size) (U := fun _ => False) (m := fun _ => (0, 0)) sz (xs.map f) (some a) cap ((List.range len).map g).flatten (fun x hx => by
    obtain ⟨z, _, rfl⟩ := List.mem_map.1 hx; exact hlen z) (by simp; omega) (fun hne => ⟨a, rfl, ?_, hcell⟩) k3
   . rw [List.length_map, k1] at this; exact this
   . have hl0 : 0 < len := by
      rcases Nat.eq_zero_or_pos len with h | h
      . rw [h] at k1
        rw [List.eq_nil_of_length_eq_zero k1] at hne
        exact absurd rfl hne
      . exact h
     obtain ⟨v0, hv0⟩ : ∃ v, (g 0)[0]? = some v := ⟨(g 0)[0]'(by rw [hgl]; exact h0), List.getElem?_eq_getElem _⟩
     rw [hg 0 hl0] at hv0
     have := (b3q (each 0 hl0).choose_spec.1).2 0 _ hv0
     rcases Nat.lt_or_ge a.block w.heap.size with h' | h'
     . exact h'
     . exfalso
       have e : w.heap[a.block]? = none := by simp [h']
       simp [World.cell?, a8m, e] at this
theorem Rd.slice {α : Type} {f : α -> List FV} {p : Nat -> α -> Prop} (h : Rd P t 1 f p) {H : Type} {enc : TypeId × Value -> H} {w : World} {spare : Nat -> Bool} {held : Bool} {a : Option Addr} {l c : Nat} {d : DataW H} {ps : List MemPlace} (ht : DataW.Trod enc P w 0 spare held t (.slice a l c) d ps) :
 ∃ x, p (bulk d) x /\ RFs w (fun b => b < w.heap.size) (fun _ => False) (fun _ => (0, 0)) (f x) [.slice a l c] := by
 obtain ⟨n, hn⟩ := ht
 exact h.2.2 H enc w spare held n _ _ (by simpa [Value.cells] using hn) _ (Nat.le_refl _)
theorem Rd.struct {α : Type} {sz : Nat} {f : α -> List FV} {p : Nat -> α -> Prop} (h : Rd P t sz f p) {H : Type} {enc : TypeId × Value -> H} {w : World} {spare : Nat -> Bool} {held : Bool} {cs : Array Value} {d : DataW H} {ps : List MemPlace} (ht : DataW.Trod enc P w 0 spare held t (.agg cs) d ps) :
 ∃ x, p (bulk d) x /\ RFs w (fun b => b < w.heap.size) (fun _ => False) (fun _ => (0, 0)) [.agg (f x)] [.agg cs] := by
 obtain ⟨n, hn⟩ := ht
 obtain ⟨x, hx, hr⟩ := h.2.2 H enc w spare held n _ _ (by simpa [Value.cells] using hn) _ (Nat.le_refl _)
 exact ⟨x, hx, .cons _ _ _ _ (by simpa using RF.agg (f x) cs.toList hr) .nil⟩
end
end Go.FM
