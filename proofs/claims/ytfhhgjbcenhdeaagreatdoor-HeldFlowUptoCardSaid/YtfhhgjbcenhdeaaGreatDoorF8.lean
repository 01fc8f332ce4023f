/- Parts of the proof. -/
import Derived.Test.YtfhhgjbcenhdeaaGreatDoorF5
import Derived.ProofKit
import Derived.OpenShut
import Derived.ShutString
import Derived.ChangeOld
import Derived.Below
import Derived.LaidMore
import Derived.Stop.Joined
import Derived.Lib.LaidTab
set_option linter.unusedSimpArgs false
set_option linter.unusedVariables false
namespace Go.FM
open Go
def HP (L : List (Loc × FO)) (B A : Heap) : Heap := ext (updL L B) A
theorem f5j : noH = HP [] noH noH := by funext k; rfl
theorem a1v (B : Heap) : updL [] B = B := rfl
theorem a1p (l : Loc) (o : FO) (r : List (Loc × FO)) (B : Heap) (k : Loc) : updL ((l, o) :: r) B k = if k = l then some o else updL r B k := rfl
theorem a1w (l : Loc) : noH l = none := id (Eq.refl none)
section
variable {L : List (Loc × FO)} {B A : Heap} {l : Loc} {ob : FO}
theorem a1k (h : A l = none) : HP L B A l = updL L B l := b6w h
theorem a8k (h : A l = some ob) : HP L B A l = some ob := a7w h
def setL (l : Loc) (o : FO) : List (Loc × FO) -> List (Loc × FO)
 | [] => [(l, o)]
 | (k, x) :: r => if l = k then (k, o) :: r else (k, x) :: setL l o r
theorem b0g : setL l ob [] = [(l, ob)] := rfl
theorem a8b (k : Loc) (x : FO) (r : List (Loc × FO)) : setL l ob ((k, x) :: r) = if l = k then (k, ob) :: r else (k, x) :: setL l ob r := rfl
theorem c1j : ∀ L : List (Loc × FO), updL (setL l ob L) B = upd (updL L B) l ob
 | [] => rfl
 | (k, x) :: r => by
   have ih := c1j r
   funext q
   simp only [setL]
   split
   . rename_i e
     subst e
     simp only [updL, upd]
     split <;> rfl
   . rename_i e
     simp only [updL]
     rw [ih]
     simp only [upd]
     by_cases h1 : q = k
     . subst h1; simp [Ne.symm e]
     . simp [h1]
theorem a1d (h : A l = none) : upd (HP L B A) l ob = HP (setL l ob L) B A := by
 unfold HP
 rw [c1j, a9j h]
theorem b7h : HP [] (updL L B) A = HP L B A := rfl
theorem a3t : HP L B A l = none ↔ A l = none /\ updL L B l = none := a0w
end
def a5k : List (Loc × FO) -> List (Loc × FO) -> List (Loc × FO)
 | [], L => L
 | (l, o) :: r, L => a5k r (setL l o L)
theorem b5p (L : List (Loc × FO)) : a5k [] L = L := rfl
theorem b2w (l : Loc) (o : FO) (r L : List (Loc × FO)) : a5k ((l, o) :: r) L = a5k r (setL l o L) := rfl
def delL : List Loc -> List (Loc × FO) -> List (Loc × FO)
 | _, [] => []
 | d, (l, o) :: r => if d.contains l then delL d r else (l, o) :: delL d r
theorem c0y (d : List Loc) : delL d [] = [] := rfl
theorem b6y (d : List Loc) (l : Loc) (o : FO) (r : List (Loc × FO)) : delL d ((l, o) :: r) = if d.contains l then delL d r else (l, o) :: delL d r := rfl
theorem c0x : ∀ (L : List (Loc × FO)), delL [] L = L
 | [] => rfl
 | (l, o) :: r => by simp [delL, c0x r]
structure Bs (L0 : Loc -> Prop) (j : Nat) (B A : Heap) : Prop where
 fb : ∀ k r, k <= j -> B (k :: r) = none
 fa : ∀ k r, k <= j -> A (k :: r) = none
 clo : Clo (ext B A)
 lent : ∀ l, L0 l -> ext B A l ≠ none
theorem Bs.pc (j : Nat) : Bs (fun _ => False) j noH noH := ⟨fun _ _ _ => rfl, fun _ _ _ => rfl, fun _ _ h => (by cases h), fun _ h => h.elim⟩
def hdN (j : Nat) (ns : List Loc) : Bool := ns.all fun n => match n with | k :: _ => k == j | [] => false
theorem a7m {j : Nat} {ns : List Loc} (h : hdN j ns = true) : ∀ n ∈ ns, ∃ r, n = j :: r := fun n hn => by
 have := List.all_eq_true.1 h n hn
 match n with
 | [] => simp at this
 | k :: r =>
   simp only [beq_iff_eq] at this
   exact ⟨r, by rw [this]⟩
theorem a5h {B : Heap} {k : Loc} : ∀ {L : List (Loc × FO)}, (∀ p ∈ L, p.1 ≠ k) -> updL L B k = B k
 | [], _ => rfl
 | (l, o) :: r, h => by
   have : k ≠ l := fun e => h (l, o) (by simp) e.symm
   simp only [updL, upd, this, if_false]
   exact a5h fun p hp => h p (by simp [hp])
theorem a5z {B : Heap} {k : Loc} {o : FO} : ∀ {L : List (Loc × FO)}, updL L B k = some o -> (k, o) ∈ L \/ ((∀ p ∈ L, p.1 ≠ k) /\ B k = some o)
 | [], h => .inr ⟨fun _ hp => (by cases hp), h⟩
 | (l, x) :: r, h => by
   simp only [updL, upd] at h
   split at h
   . rename_i e; subst e; obtain rfl := sI_ h; exact .inl (by simp)
   . rename_i e
     rcases a5z h with h | ⟨h, h'⟩
     . exact .inl (by simp [h])
     . refine .inr ⟨fun p hp => ?_, h'⟩
       rcases List.mem_cons.1 hp with rfl | hp
       . exact fun e' => e e'.symm
       . exact h p hp
theorem b6g {j : Nat} {L : List (Loc × FO)} {B A : Heap} (fb : ∀ k r, k <= j -> B (k :: r) = none) (hl : hdN j (L.map Prod.fst) = true) : HSub (ext B A) (HP L B A) := by
 refine HSub.ext' fun k o hk => ?_
 rw [a5h fun p hp e => ?_]
 . exact hk
 . obtain ⟨r, hr⟩ := a7m hl p.1 (List.mem_map.2 ⟨p, hp, rfl⟩)
   rw [<- e, hr, fb j r (nr_ _)] at hk
   cases hk
theorem gk2 {c : Cfg} {j : Nat} {vs1 vs : List FV} {tm1 tm : Asg} {L1 L : List (Loc × FO)} {B A A1 : Heap} {ix1 ix : List Nat} (b : List (Loc × Option Loc)) (hb : Bs c.L j B A1) (hA : A1 = A) (hn : hdN j (L1.map Prod.fst ++ b.map Prod.fst ++ b.filterMap Prod.snd) = true) (hl : hdN j (L.map Prod.fst) = true)
 (hinj : injB (bk b) (L1.map Prod.fst) = true) (hv : a9d (bk b) (fun l => HP L1 B A1 l ≠ none) vs1 vs) (ht : simT (bk b) (fun l => HP L1 B A1 l ≠ none) vs.length tm tm1) (hH : simH (bk b) (fun l => HP L1 B A1 l ≠ none) (HP L B A) L1) : Gk c (Fs.mk vs1 tm1 (HP L1 B A1) ix1) ⟨vs, tm, HP L B A, ix⟩ := by
 subst hA
 refine e3p b hinj (fun n hn' => ?_) hb.clo (b6g hb.fb hl) hb.lent hv ht hH
 obtain ⟨r, rfl⟩ := a7m hn n hn'
 exact a0w.2 ⟨hb.fa j r (nr_ _), hb.fb j r (nr_ _)⟩
def mSl (l1 : Loc) : FV -> List (Loc × Option Loc)
 | .sl l _ _ _ => if l1 = l then [] else [(l1, some l)]
 | .nils => [(l1, none)]
 | _ => []
def mPt (l1 : Loc) : FV -> List (Loc × Option Loc)
 | .ptr l _ _ _ => if l1 = l then [] else [(l1, some l)]
 | _ => []
def mMp (l1 : Loc) : FV -> List (Loc × Option Loc)
 | .mp l => if l1 = l then [] else [(l1, some l)]
 | _ => []
def mV : FV -> FV -> List (Loc × Option Loc)
 | .sl l1 _ _ _, v => mSl l1 v
 | .ptr l1 _ _ _, v => mPt l1 v
 | .mp l1, v => mMp l1 v
 | _, _ => []
def mVs : List FV -> List FV -> List (Loc × Option Loc)
 | v1 :: r1, v :: r => mV v1 v ++ mVs r1 r
 | _, _ => []
theorem d9z (v1 v : FV) (r1 r : List FV) : mVs (v1 :: r1) (v :: r) = mV v1 v ++ mVs r1 r := rfl
theorem e6y (r : List FV) : mVs [] r = [] := rfl
def mT (tm : Asg) : Asg -> List (Loc × Option Loc)
 | [] => []
 | (t, v) :: r => mV v (lk tm t) ++ mT tm r
theorem f2i (tm : Asg) : mT tm [] = [] := rfl
theorem e6z (tm r : Asg) (t : Nat) (v : FV) : mT tm ((t, v) :: r) = mV v (lk tm t) ++ mT tm r := rfl
def setV : List (Nat × FV) -> List FV -> List FV
 | [], vs => vs
 | (k, v) :: r, vs => setV r (vs.set k v)
theorem b9m (vs : List FV) : setV [] vs = vs := rfl
theorem b5o (k : Nat) (v : FV) (r : List (Nat × FV)) (vs : List FV) : setV ((k, v) :: r) vs = setV r (vs.set k v) := rfl
def a8g (kt : List Nat) (tm : Asg) : Asg := kt.map fun t => (t, lk tm t)
section
variable {P : Program} {c : Cfg} {Q : Exit -> Fs -> Prop} {vs : List FV} {tm : Asg} {L : List (Loc × FO)} {B A : Heap} {ix : List Nat}
def lpS {σ : Type} (vs : List FV) (tm : Asg) (L : List (Loc × FO)) (B : Heap) (sv : σ -> List (Nat × FV)) (kt : List Nat) (st : σ -> Asg) (dl : List Loc) (sh : σ -> List (Loc × FO)) (fA : σ -> Heap) (x : σ) : Fs :=
 ⟨setV (sv x) vs, st x ++ a8g kt tm, HP (a5k (sh x) (delL dl L)) B (fA x), []⟩
theorem a1q {σ : Type} {body : Code} (sv : σ -> List (Nat × FV)) (kt : List Nat) (st : σ -> Asg) (dl : List Loc) (sh : σ -> List (Loc × FO)) (fA : σ -> Heap) (μ : σ -> Nat) (x0 : σ)
 (h0 : Gk c (lpS vs tm L B sv kt st dl sh fA x0) ⟨vs, tm, HP L B A, ix⟩) (round : ∀ x, a2s P c body (c1g c (lpS vs tm L B sv kt st dl sh fA) μ x Q) (lpS vs tm L B sv kt st dl sh fA x)) :
 a2s P c (.loop body) Q ⟨vs, tm, HP L B A, ix⟩ := a7t _ μ x0 h0 round
theorem gk3 {σ : Type} {j : Nat} {vs0 : List FV} {tm0 : Asg} {L0 : List (Loc × FO)} {sv : σ -> List (Nat × FV)} {kt : List Nat} {st : σ -> Asg} {dl : List Loc} {sh : σ -> List (Loc × FO)} {fA : σ -> Heap} {x : σ} (b : List (Loc × Option Loc)) (hb : Bs c.L j B (fA x)) (hA : fA x = A)
 (hn : hdN j ((a5k (sh x) (delL dl L0)).map Prod.fst ++ (b ++ mVs (setV (sv x) vs0) vs ++ mT tm (st x ++ a8g kt tm0)).map Prod.fst ++ (b ++ mVs (setV (sv x) vs0) vs ++ mT tm (st x ++ a8g kt tm0)).filterMap Prod.snd) = true) (hl : hdN j (L.map Prod.fst) = true)
 (hinj : injB (bk (b ++ mVs (setV (sv x) vs0) vs ++ mT tm (st x ++ a8g kt tm0))) ((a5k (sh x) (delL dl L0)).map Prod.fst) = true)
 (hv : a9d (bk (b ++ mVs (setV (sv x) vs0) vs ++ mT tm (st x ++ a8g kt tm0))) (fun l => HP (a5k (sh x) (delL dl L0)) B (fA x) l ≠ none) (setV (sv x) vs0) vs)
 (ht : simT (bk (b ++ mVs (setV (sv x) vs0) vs ++ mT tm (st x ++ a8g kt tm0))) (fun l => HP (a5k (sh x) (delL dl L0)) B (fA x) l ≠ none) vs.length tm (st x ++ a8g kt tm0))
 (hH : simH (bk (b ++ mVs (setV (sv x) vs0) vs ++ mT tm (st x ++ a8g kt tm0))) (fun l => HP (a5k (sh x) (delL dl L0)) B (fA x) l ≠ none) (HP L B A) (a5k (sh x) (delL dl L0))) : Gk c (lpS vs0 tm0 L0 B sv kt st dl sh fA x) ⟨vs, tm, HP L B A, ix⟩ :=
 gk2 _ hb hA hn hl hinj hv ht hH
end
section
variable {P : Program} {c : Cfg} {Q : Exit -> Fs -> Prop} {Φ : FV -> Heap -> Prop} {H : Heap} {L : List (Loc × FO)} {B A : Heap} {l : List FV} {j : Nat}
theorem a6j (hb : Bs (fun l => H l ≠ none) j B A) (hl : hdN j (L.map Prod.fst) = true) (hΦ : Φ (a3n l) (HP [] B A)) (hr : nin (fun l => HP [] B A l ≠ none) (a3n l)) : LFin H Φ (HP L B A) (some l) :=
 ⟨HP [] B A, hΦ, b6g hb.fb hl, hb.lent, hr, hb.clo⟩
theorem f7p (L1 : List (Loc × FO)) (hb : Bs (fun l => H l ≠ none) j (updL L1 B) A) (hs : HSub (updL L1 B) (updL L B)) (hΦ : Φ (a3n l) (HP L1 B A)) (hr : nin (fun l => HP L1 B A l ≠ none) (a3n l)) : LFin H Φ (HP L B A) (some l) :=
 ⟨HP L1 B A, hΦ, HSub.ext' hs, hb.lent, hr, hb.clo⟩
def ninL (U : Loc -> Prop) : List (Loc × FO) -> Prop
 | [] => True
 | (_, o) :: r => ninO U o /\ ninL U r
theorem a8o {U : Loc -> Prop} : ∀ {L : List (Loc × FO)}, ninL U L -> ∀ p ∈ L, ninO U p.2
 | [], _, p, hp => by cases hp
 | (l, o) :: r, h, p, hp => by
   rcases List.mem_cons.1 hp with rfl | hp
   . exact h.1
   . exact a8o h.2 p hp
theorem Bs.call {L0 : Loc -> Prop} {A1 : Heap} (i : Nat) (hb : Bs L0 j B A1) (hi : i < j) (hl : hdN j (L.map Prod.fst) = true) (ho : ninL (fun l => HP L B A1 l ≠ none) L) (hdom : ∀ l, A l ≠ none -> A1 l ≠ none) : Bs (fun l => HP L B A l ≠ none) i (updL L B) A1 := by
 refine ⟨fun k r hk => ?_, fun k r hk => hb.fa k r (by omega), fun l o h => ?_, fun l h => ?_⟩
 . rw [a5h fun p hp e => ?_]
   . exact hb.fb k r (by omega)
   . obtain ⟨q, hq⟩ := a7m hl p.1 (List.mem_map.2 ⟨p, hp, rfl⟩)
     rw [e] at hq
     simp only [List.cons.injEq] at hq
     omega
 . have hcase : A1 l = some o \/ (A1 l = none /\ updL L B l = some o) := by
    rw [a3y] at h
    cases e : A1 l with
    | some o' => rw [e] at h; exact .inl h
    | none => rw [e] at h; exact .inr ⟨rfl, h⟩
   have hup : ∀ q, ext B A1 q ≠ none -> ext (updL L B) A1 q ≠ none := fun q hq => by
    obtain ⟨o', ho'⟩ := Option.ne_none_iff_exists'.1 hq
    have := b6g (L := L) (A := A1) hb.fb hl q o' ho'
    unfold HP at this
    simp [this]
   rcases hcase with e | ⟨e, h⟩
   . exact a3k hup (hb.clo l o (a7w e))
   . rcases a5z h with h | ⟨_, h⟩
     . exact a8o ho _ h
     . exact a3k hup (hb.clo l o (by rw [b6w e]; exact h))
 . intro hn
   rw [a0w] at hn
   refine h (a0w.2 ⟨?_, hn.2⟩)
   cases e : A l with
   | none => rfl
   | some o => exact absurd hn.1 (hdom l (by simp [e]))
end
section
variable {P : Program}
theorem a3s {G : List (Nat × List Value)} {f : FuncId} {fn : Func} {code : Code} {res : List ResultVar} (nv n : Nat) (keep : List Nat) (nm : Nat -> List Nat -> Loc) {args : List FV} {r : FV} (hf : P.funcs[f]? = some fn) (hb : fn.body = some code) (hn : fn.ntmps = n) (hres : fn.results.toList = res)
 (hargs : args.length <= nv) (hnv : nv <= n) (h : a2s P ⟨n, keep, nm, G, fun _ => False⟩ code (PEnd P res r) (Fs.init nv args (HP [] noH noH))) : PC P G f args r := a8v nv n keep nm hf hb hn hres hargs hnv (by rw [f5j]; exact h)
end
mutual
def asD : FV -> FV -> Prop
 | .nils, r => r = .nils \/ ∃ sz, r = .list sz []
 | .agg cs, r => ∃ ds, r = .agg ds /\ asDs cs ds
 | .tup cs, r => ∃ ds, r = .tup ds /\ asDs cs ds
 | .list sz xs, r => ∃ ys, r = .list sz ys /\ asDss xs ys
 | v, r => r = v
def asDs : List FV -> List FV -> Prop
 | [], l => l = []
 | x :: xs, l => ∃ y ys, l = y :: ys /\ asD x y /\ asDs xs ys
def asDss : List (List FV) -> List (List FV) -> Prop
 | [], l => l = []
 | x :: xs, l => ∃ y ys, l = y :: ys /\ asDs x y /\ asDss xs ys
end
section
variable {w w' : World} {F F' : Nat -> Prop} {U U' : Loc -> Prop} {m m' : Loc -> Nat × Nat} {P : Program}
theorem b7f : ∀ {xs ys : List FV}, asDs xs ys -> ys.length = xs.length
 | [], ys, h => by simp only [asDs] at h; subst h; rfl
 | x :: xs, ys, h => by
   obtain ⟨y, ys', rfl, _, h2⟩ := h
   simp [b7f h2]
theorem b4c : ∀ {xs ys : List (List FV)}, asDss xs ys -> ys.length = xs.length
 | [], ys, h => by simp only [asDss] at h; subst h; rfl
 | x :: xs, ys, h => by
   obtain ⟨y, ys', rfl, _, h2⟩ := h
   simp [b4c h2]
theorem b8z {sz : Nat} : ∀ {xs ys : List (List FV)}, asDss xs ys -> (∀ x ∈ xs, x.length = sz) -> ∀ y ∈ ys, y.length = sz
 | [], ys, h, _ => by simp only [asDss] at h; subst h; intro y hy; cases hy
 | x :: xs, ys, h, hl => by
   obtain ⟨y, ys', rfl, h1, h2⟩ := h
   intro z hz
   rcases List.mem_cons.1 hz with rfl | hz
   . rw [b7f h1]; exact hl x (by simp)
   . exact b8z h2 (fun x hx => hl x (by simp [hx])) z hz
mutual
theorem RF.asD {x y : FV} {v : Value} (h : RF w F U m x v) (hr : asD x y) : RF w F U m y v := by
 match x with
 | .nils =>
   cases h with
   | nils =>
   rcases hr with rfl | ⟨sz, rfl⟩
   . exact .nils
   . exact .list sz [] none 0 [] (by simp) (by simp) (by simp) .nil
 | .agg cs =>
   cases h with
   | agg _ vs h =>
   obtain ⟨ds, rfl, hds⟩ := hr
   exact .agg ds vs (RFs.asD h hds)
 | .tup cs =>
   cases h with
   | tup _ vs h =>
   obtain ⟨ds, rfl, hds⟩ := hr
   exact .tup ds vs (RFs.asD h hds)
 | .list sz xs =>
   cases h with
   | list _ _ A cap vs hl hc hm h =>
   obtain ⟨ys, rfl, hys⟩ := hr
   have e := b4c hys
   rw [<- e] at hc ⊢
   refine .list sz ys A cap vs (b8z hys hl) hc (fun hne => hm fun e' => ?_) (RFs.asDss h hys)
   subst e'
   exact hne (eN_ (by rw [e]; rfl))
 | .undef => have e : y = .undef := hr; subst e; exact h
 | .int k n => have e : y = .int k n := hr; subst e; exact h
 | .bool b => have e : y = .bool b := hr; subst e; exact h
 | .str s => have e : y = .str s := hr; subst e; exact h
 | .ref cs => have e : y = .ref cs := hr; subst e; exact h
 | .ptr l sz i off => have e : y = .ptr l sz i off := hr; subst e; exact h
 | .nilp => have e : y = .nilp := hr; subst e; exact h
 | .sl l sz off len => have e : y = .sl l sz off len := hr; subst e; exact h
 | .mp l => have e : y = .mp l := hr; subst e; exact h
 | .nilm => have e : y = .nilm := hr; subst e; exact h
 | .clo f a b => have e : y = .clo f a b := hr; subst e; exact h
 | .nilf => have e : y = .nilf := hr; subst e; exact h
 | .emp => have e : y = .emp := hr; subst e; exact h
theorem RFs.asD {xs ys : List FV} {vs : List Value} (h : RFs w F U m xs vs) (hr : asDs xs ys) : RFs w F U m ys vs := by
 match xs with
 | [] => have e : ys = [] := hr; subst e; exact h
 | a :: as =>
   cases h with
   | cons _ v _ vs h hs =>
   obtain ⟨y, ys', rfl, h1, h2⟩ := hr
   exact .cons y v ys' vs (RF.asD h h1) (RFs.asD hs h2)
theorem RFs.asDss {xs ys : List (List FV)} {vs : List Value} (h : RFs w F U m xs.flatten vs) (hr : asDss xs ys) : RFs w F U m ys.flatten vs := by
 match xs with
 | [] => have e : ys = [] := hr; subst e; exact h
 | a :: as =>
   rw [List.flatten_cons] at h
   obtain ⟨v1, v2, rfl, h1, h2⟩ := RFs.part _ _ h
   obtain ⟨y, ys', rfl, h3, h4⟩ := hr
   exact (RFs.asD h1 h3).append (RFs.asDss h2 h4)
end
theorem PC.deep {G : List (Nat × List Value)} {f : FuncId} {args : List FV} {r r' : FV} (h : PC P G f args r) (hr : asD r r') : PC P G f args r' := by
 intro w F m vs hF hG hv hH
 refine (h w F m vs hF hG hv hH).mono ?_
 rintro e w' ⟨v, F', m', he, k1, k2, k3, k4, k5⟩
 exact ⟨v, F', m', he, k1, k2, k3, k4.asD hr, k5⟩
end
theorem b0u (H A : Heap) (l : Loc) (ob : FO) : ext H (upd A l ob) = upd (ext H A) l ob := by
 funext k
 by_cases e : k = l <;> simp [upd, ext, e]
def fzL (l0 : Loc) (sz0 : Nat) (xs0 : List (List FV)) : List (Loc × FO) -> List (Loc × FO)
 | [] => []
 | (k, o) :: r => if k = l0 then fzL l0 sz0 xs0 r else (k, fzO l0 sz0 xs0 o) :: fzL l0 sz0 xs0 r
theorem c0p (l0 : Loc) (sz0 : Nat) (xs0 : List (List FV)) : fzL l0 sz0 xs0 [] = [] := rfl
theorem b4z (l0 : Loc) (sz0 : Nat) (xs0 : List (List FV)) (k : Loc) (o : FO) (r : List (Loc × FO)) : fzL l0 sz0 xs0 ((k, o) :: r) = if k = l0 then fzL l0 sz0 xs0 r else (k, fzO l0 sz0 xs0 o) :: fzL l0 sz0 xs0 r := rfl
theorem f3m (l0 : Loc) (sz0 : Nat) (xs0 : List (List FV)) (L : List (Loc × FO)) : fzH l0 sz0 xs0 (HP L noH noH) = HP (fzL l0 sz0 xs0 L) noH noH := by
 funext q
 show (if q = l0 then none else (updL L noH q).map (fzO l0 sz0 xs0)) = updL (fzL l0 sz0 xs0 L) noH q
 induction L with
 | nil =>
   show (if q = l0 then none else none) = none
   split <;> rfl
 | cons p r ih =>
   obtain ⟨k, o⟩ := p
   simp only [fzL, updL, upd]
   by_cases e : q = l0
   . subst e
     simp only [if_true] at ih ⊢
     split
     . exact ih
     . rename_i hk
       simp only [updL, upd, Ne.symm hk, if_false]
       exact ih
   . simp only [e, if_false] at ih ⊢
     by_cases h1 : q = k
     . subst h1
       simp [e, updL, upd]
     . simp only [h1, if_false]
       split
       . exact ih
       . simp only [updL, upd, h1, if_false]
         exact ih
theorem f3h {c : Cfg} {vs : List FV} {tm : Asg} {L : List (Loc × FO)} {ix : List Nat} (l0 : Loc) (T0 : TypeId) (sz0 : Nat) (xs0 : List (List FV)) (hc : ∀ l, ¬ c.L l) (hl : HP L noH noH l0 = some (.cells T0 sz0 xs0)) (hn : nlss xs0 = true) :
 Gk c (Fs.mk (fzs l0 sz0 xs0 vs) (fzT l0 sz0 xs0 tm) (HP (fzL l0 sz0 xs0 L) noH noH) ix) ⟨vs, tm, HP L noH noH, ix⟩ := by
 rw [<- f3m]
 exact f8b l0 T0 sz0 xs0 hc hl hn
def inH (H : Heap) (l : Loc) : Prop := H l ≠ none
section
variable {P : Program} {Φ : FV -> Heap -> Prop}
theorem a3d {G : List (Nat × List Value)} {f : FuncId} {fn : Func} {code : Code} {res : List ResultVar} (nv n : Nat) (keep : List Nat) (nm : Nat -> List Nat -> Loc) {args : List FV} {H : Heap} (hf : P.funcs[f]? = some fn) (hb : fn.body = some code) (hn : fn.ntmps = n) (hres : fn.results.toList = res)
 (hargs : args.length <= nv) (hnv : nv <= n) (h : a2s P ⟨n, keep, nm, G, inH H⟩ code (LEnd P res H Φ) (Fs.init nv args H)) : FCr P G f args H Φ := e4m nv n keep nm hf hb hn hres hargs hnv h
theorem a5n {G : List (Nat × List Value)} {f : FuncId} {fn : Func} {code : Code} {res : List ResultVar} (nv n : Nat) (keep : List Nat) (nm : Nat -> List Nat -> Loc) {args : List FV} {H : Heap} {r : FV} {H' : Heap} (hf : P.funcs[f]? = some fn) (hb : fn.body = some code) (hn : fn.ntmps = n) (hres : fn.results.toList = res)
 (hargs : args.length <= nv) (hnv : nv <= n) (h : a2s P ⟨n, keep, nm, G, inH H⟩ code (LEnd P res H (fun r1 H1 => r1 = r /\ H1 = H')) (Fs.init nv args H)) : FC P G f args H r H' := f5p nv n keep nm hf hb hn hres hargs hnv h
theorem c2j {H H' : Heap} {L : List (Loc × FO)} {B A : Heap} {l : List FV} {r : FV} {j : Nat} (hb : Bs (inH H) j B A) (hl : hdN j (L.map Prod.fst) = true) (hr : a3n l = r) (hH : HP [] B A = H') (hn : nin (inH (HP [] B A)) (a3n l)) : LFin H (fun r1 H1 => r1 = r /\ H1 = H') (HP L B A) (some l) :=
 a6j hb hl ⟨hr, hH⟩ hn
end
section
variable {P : Program} {s : Fs} {r : FV} {H' : Heap}
def KFin (r : FV) (H' H : Heap) : Option (List FV) -> Prop
 | some l => H = H' /\ a3n l = r
 | none => False
theorem b9a {H : Heap} {l : List FV} : KFin r H' H (some l) = (H = H' /\ a3n l = r) := rfl
theorem d4k {res : List ResultVar} {e : Exit} (he : e = .normal \/ e = .ret) (h : KFin r H' s.H (resL P s res)) : KEnd P res r H' e s := by
 unfold KFin at h
 split at h
 . rename_i l hl; exact ⟨he, s, Wk.refl s, l, hl, h⟩
 . exact h.elim
theorem e3j {res : List ResultVar} (h : KFin r H' s.H (resL P s res)) : KEnd P res r H' .ret s := d4k (.inr rfl) h
theorem e3k {res : List ResultVar} (h : KFin r H' s.H (resL P s res)) : KEnd P res r H' .normal s := d4k (.inl rfl) h
theorem b4d {G : List (Nat × List Value)} {f : FuncId} {fn : Func} {code : Code} {res : List ResultVar} (nv n : Nat) (keep : List Nat) (nm : Nat -> List Nat -> Loc) {args : List FV} {H H' : Heap} {r : FV} (hf : P.funcs[f]? = some fn) (hb : fn.body = some code) (hn : fn.ntmps = n) (hres : fn.results.toList = res)
 (hargs : args.length <= nv) (hnv : nv <= n) (h : a2s P ⟨n, keep, nm, G, inH H⟩ code (KEnd P res r H') (Fs.init nv args H)) : FC P G f args H r H' := g0c nv n keep nm hf hb hn hres hargs hnv h
end
theorem e3q {c : Cfg} {vs : List FV} {tm : Asg} {H : Heap} {ix : List Nat} (l0 : Loc) (T0 : TypeId) (sz0 : Nat) (xs0 : List (List FV)) (hc : ∀ l, c.L l -> l ≠ l0 /\ ∃ o, H l = some o /\ o ≠ .dead) (hl : H l0 = some (.cells T0 sz0 xs0)) (hn : nlss xs0 = true) :
 Gk c (Fs.mk (fzs l0 sz0 xs0 vs) (fzT l0 sz0 xs0 tm) (fzH l0 sz0 xs0 H) ix) ⟨vs, tm, H, ix⟩ := by
 rintro X a w ⟨hN, F, m, h1, h2, h⟩
 have hlent : Live H m l0 -> ¬ X.lent (m l0).1 := fun hl0 ⟨l, ⟨o, ho, hd, h0⟩, e⟩ => by
  have hne : X.H0 l ≠ none := by simp [ho]
  obtain ⟨hne0, o', ho', hd'⟩ := hc l (h1.hd l hne)
  have hm := h.mfix l hne
  exact hne0 (h.heap.inj l l0 ⟨o', ho', hd', by rw [hm]; exact h0⟩ hl0 (by rw [hm]; exact e))
 let F' : Nat -> Prop := fun b => F b \/ (Live H m l0 /\ (m l0).1 = b)
 have hF : ∀ b, F b -> F' b := fun _ h => .inl h
 have hU : ∀ l, H l ≠ none -> l ≠ l0 -> fzH l0 sz0 xs0 H l ≠ none := fun l hl' hne => by
  cases e : H l with
  | none => exact absurd e hl'
  | some o => simp [fzH, hne, e]
 have hB : FzB w F' m l0 sz0 xs0 := by
  refine ⟨hn, ?_⟩
  rcases h.heap.obj l0 _ hl with ⟨g1, g2⟩ | ⟨g0, cc, g1, g2, g3, g4, g5⟩
  . exact .inl ⟨g1, g2⟩
  . refine .inr ⟨g0, .inr ⟨⟨_, hl, by simp, g0⟩, rfl⟩, T0, cc, g1, g3, ?_⟩
    exact (g5.keep (w' := w) (F' := F') (U' := fun l => H l ≠ none) (m' := m) hF (fun _ _ => rfl) (fun _ h => h) (fun _ _ => rfl)).nameless (by rw [<- a5q]; exact hn) _ _
 have hlive : ∀ l, Live (fzH l0 sz0 xs0 H) m l -> l ≠ l0 /\ Live H m l := fun l ⟨o, g1, g2, g3⟩ => by
  unfold fzH at g1
  split at g1
  . cases g1
  . rename_i hne
    rw [oM_] at g1
    obtain ⟨o', g1, rfl⟩ := g1
    refine ⟨hne, o', g1, ?_, g3⟩
    rintro rfl
    exact g2 rfl
 refine ⟨hN, F', m, h1.more hF, fun y hy => ?_, ?_⟩
 . rcases hy with hy | ⟨hy, rfl⟩
   . exact h2 y hy
   . exact .inr ((h.own l0 hy).resolve_left (hlent hy))
 refine { df := h.df, vsz := by rw [a8j]; exact h.vsz, val := fun t => ?_, heap := ⟨fun l o ho => ?_, fun k k' hk hk' e => h.heap.inj k k' (hlive k hk).2 (hlive k' hk').2 e, fun k hk => ?_⟩, own := fun l hl => h.own l (hlive l hl).2,
          ext := fun l hl => hU l (h.ext l hl) (hc l (h1.hd l hl)).1, mfix := fun l hl => h.mfix l hl, frz := fun b hb => ?_, keep := h.keep, size := h.size, os := h.os, tape := h.tape, output := h.output }
 . have hv := h.val t
   have e : (Fs.mk (fzs l0 sz0 xs0 vs) (fzT l0 sz0 xs0 tm) (fzH l0 sz0 xs0 H) ix).get t = fz l0 sz0 xs0 ((Fs.mk vs tm H ix).get t) := by
    simp only [Fs.get, a8j]
    split
    . exact c7t ..
    . exact e3g ..
   rw [e]
   exact hv.fz hB hF hU
 . simp only [fzH] at ho
   split at ho
   . cases ho
   . rename_i hne
     rw [oM_] at ho
     obtain ⟨o', ho', rfl⟩ := ho
     have hob := h.heap.obj l o' ho'
     cases o' with
     | cells T sz xs =>
       simp only [fzO, OR] at hob ⊢
       rcases hob with ⟨b1, b2⟩ | ⟨b0, cc, b1, b2, b3, b4, b5⟩
       . left; subst b1; exact ⟨rfl, b2⟩
       . right
         refine ⟨b0, cc, b1, b2, c7v b3, by rw [a8s]; exact b4, ?_⟩
         rw [a8s, b3w]
         exact b5.fz hB hF hU
     | map es clk =>
       simp only [fzO, OR] at hob ⊢
       obtain ⟨b0, aa, b1, b2⟩ := hob
       exact ⟨b0, aa, b1, b2.fz hB hF hU⟩
     | iter x q r t =>
       simp only [fzO, OR] at hob ⊢
       obtain ⟨b0, aa, b1, b2⟩ := hob
       exact ⟨b0, aa, b1.fz hB hF hU, b2⟩
     | dead => trivial
 . obtain ⟨hne, hk'⟩ := hlive k hk
   obtain ⟨g1, g2⟩ := h.heap.old k hk'
   refine ⟨g1, ?_⟩
   rintro (hy | ⟨hy, e⟩)
   . exact g2 hy
   . exact hne (h.heap.inj k l0 hk' hy e.symm)
 . rcases hb with hb | ⟨hb, rfl⟩
   . exact h.frz b hb
   . exact (h.heap.old l0 hb).1
section
variable {l0 : Loc} {sz0 : Nat} {xs0 : List (List FV)} {U : Loc -> Prop}
mutual
theorem c7x (hU : ¬ U l0) : ∀ {a : FV}, nin U a -> fz l0 sz0 xs0 a = a := by
 intro a h
 match a with
 | .ptr l sz i off => have : l ≠ l0 := fun e => hU (e ▸ h); simp [fz, this]
 | .sl l sz off len => have : l ≠ l0 := fun e => hU (e ▸ h); simp [fz, this]
 | .mp l => first | rfl | (have : l ≠ l0 := fun e => hU (e ▸ h); simp [fz, this])
 | .agg cs => simp only [fz, b3g hU (as := cs) h]
 | .tup cs => simp only [fz, b3g hU (as := cs) h]
 | .clo f x y => simp only [fz, b3g hU (as := x) h.1, b3g hU (as := y) h.2]
 | .list _ xs => have h : nlss xs = true := h; simp [fz, h]
 | .ref cs => have h : nls cs = true := h; simp [fz, h]
 | .undef => rfl
 | .int .. => rfl
 | .bool _ => rfl
 | .str _ => rfl
 | .nilp => rfl
 | .nils => rfl
 | .nilm => rfl
 | .nilf => rfl
 | .emp => rfl
theorem b3g (hU : ¬ U l0) : ∀ {as : List FV}, nins U as -> fzs l0 sz0 xs0 as = as := by
 intro as h
 match as with
 | [] => rfl
 | a :: as => simp only [fzs, c7x hU h.1, b3g hU (as := as) h.2]
end
theorem c7w (hU : ¬ U l0) : ∀ {xs : List (List FV)}, a2u U xs -> fzss l0 sz0 xs0 xs = xs
 | [], _ => rfl
 | a :: as, h => by simp only [fzss, b3g hU h.1, c7w hU (xs := as) h.2]
theorem d5l (hU : ¬ U l0) : ∀ {xs : List (FV × FV × Nat)}, nine U xs -> fze l0 sz0 xs0 xs = xs
 | [], _ => rfl
 | (k, v, n) :: as, h => by simp only [fze, c7x hU h.1.1, c7x hU h.1.2, d5l hU (xs := as) h.2]
theorem e8b (hU : ¬ U l0) {o : FO} (h : ninO U o) : fzO l0 sz0 xs0 o = o := by
 cases o with
 | cells T sz xs => simp only [fzO, c7w hU (xs := xs) h]
 | map es clk => simp only [fzO, d5l hU (xs := es) h]
 | iter x a b c => simp only [fzO, c7x hU (a := x) h]
 | dead => rfl
end
theorem d5n {l0 : Loc} {sz0 : Nat} {xs0 : List (List FV)} {B A : Heap} (hcl : Clo (ext B A)) (h0 : ext B A l0 = none) (L : List (Loc × FO)) (hL : ∀ p ∈ L, ext B A p.1 = none) : fzH l0 sz0 xs0 (HP L B A) = HP (fzL l0 sz0 xs0 L) B A := by
 have key : ∀ q o, ext B A q = some o -> q ≠ l0 /\ fzO l0 sz0 xs0 o = o := fun q o hq => ⟨fun e => (by rw [e, h0] at hq; cases hq), e8b (U := fun l => ext B A l ≠ none) (fun h => h h0) (hcl q o hq)⟩
 funext q
 show (if q = l0 then none else (HP L B A q).map (fzO l0 sz0 xs0)) = HP (fzL l0 sz0 xs0 L) B A q
 unfold HP
 rw [a3y, a3y]
 cases ea : A q with
 | some o =>
   have := key q o (a7w ea)
   simp only [this.1, if_false, Option.map_some, this.2]
 | none =>
   simp only
   clear hL
   induction L with
   | nil =>
     show (if q = l0 then none else (B q).map _) = B q
     cases eb : B q with
     | none => split <;> rfl
     | some o =>
       have := key q o (by rw [b6w ea]; exact eb)
       simp only [this.1, if_false, Option.map_some, this.2]
   | cons p r ih =>
     obtain ⟨k, o⟩ := p
     simp only [fzL, updL, upd]
     by_cases e : q = l0
     . subst e
       simp only [if_true] at ih ⊢
       split
       . exact ih
       . rename_i hk
         simp only [updL, upd, Ne.symm hk, if_false]
         exact ih
     . simp only [e, if_false] at ih ⊢
       by_cases h1 : q = k
       . subst h1
         simp [e, updL, upd]
       . simp only [h1, if_false]
         split
         . exact ih
         . simp only [updL, upd, h1, if_false]
           exact ih
theorem gk5 {c : Cfg} {vs1 vs : List FV} {tm1 tm : Asg} {L1 L : List (Loc × FO)} {B A : Heap} {H1 : Heap} {ix1 ix : List Nat} (b : List (Loc × Option Loc)) (hH1 : HP L1 B A = H1) (hinj : injB (bk b) (L1.map Prod.fst) = true) (hN : ∀ n ∈ L1.map Prod.fst ++ b.map Prod.fst ++ b.filterMap Prod.snd, ext B A n = none) (hl : ∀ p ∈ L, ext B A p.1 = none)
 (hcl : Clo (ext B A)) (hc : ∀ l, c.L l -> ext B A l ≠ none) (hv : a9d (bk b) (fun l => HP L1 B A l ≠ none) vs1 vs) (ht : simT (bk b) (fun l => HP L1 B A l ≠ none) vs.length tm tm1) (hH : simH (bk b) (fun l => HP L1 B A l ≠ none) (HP L B A) L1) : Gk c (Fs.mk vs1 tm1 H1 ix1) ⟨vs, tm, HP L B A, ix⟩ := by
 subst hH1
 refine e3p b hinj hN hcl ?_ hc hv ht hH
 rw [show HP L B A = ext (hpL L) (ext B A) from b4k hl]
 intro k o hk
 exact a7w hk
theorem f3g {c : Cfg} {j : Nat} {vs : List FV} {tm : Asg} {L : List (Loc × FO)} {B A : Heap} {ix : List Nat} (l0 : Loc) (T0 : TypeId) (sz0 : Nat) (xs0 : List (List FV)) (hb : Bs c.L j B A) (hnd : ∀ l, c.L l -> ∃ o, ext B A l = some o /\ o ≠ .dead) (hL : hdN j (l0 :: L.map Prod.fst) = true)
 (hl : HP L B A l0 = some (.cells T0 sz0 xs0)) (hn : nlss xs0 = true) : Gk c (Fs.mk (fzs l0 sz0 xs0 vs) (fzT l0 sz0 xs0 tm) (HP (fzL l0 sz0 xs0 L) B A) ix) ⟨vs, tm, HP L B A, ix⟩ := by
 have hfr : ∀ n ∈ l0 :: L.map Prod.fst, ext B A n = none := fun n hn' => by
  obtain ⟨r, rfl⟩ := a7m hL n hn'
  exact a0w.2 ⟨hb.fa j r (nr_ _), hb.fb j r (nr_ _)⟩
 have h0 := hfr l0 (by simp)
 have hL' : hdN j (L.map Prod.fst) = true := by
  simp only [hdN, List.all_cons, bA_] at hL ⊢
  exact hL.2
 rw [<- d5n hb.clo h0 L fun p hp => hfr p.1 (by simp only [List.mem_cons, List.mem_map]; exact .inr ⟨p, hp, rfl⟩)]
 refine e3q l0 T0 sz0 xs0 (fun l hcl => ?_) hl hn
 obtain ⟨o, ho, hd⟩ := hnd l hcl
 exact ⟨fun e => (by rw [e, h0] at ho; cases ho), o, b6g hb.fb hL' l o ho, hd⟩
theorem gk3i {c : Cfg} {B A : Heap} {vs : List FV} {tm : Asg} {L : List (Loc × FO)} {ix : List Nat} {σ : Type} {j : Nat} {vs0 : List FV} {tm0 : Asg} {L0 : List (Loc × FO)} {sv : σ -> List (Nat × FV)} {kt : List Nat} {st : σ -> Asg} {dl : List Loc} {sh : σ -> List (Loc × FO)} {fA : σ -> Heap} {x : σ} (b : List (Loc × Option Loc)) (hb : Bs c.L j B (fA x)) (hA : fA x = A)
 (hn : hdN j ((a5k (sh x) (delL dl L0)).map Prod.fst ++ (b ++ mVs (setV (sv x) vs0) vs ++ mT tm (st x ++ a8g kt tm0)).map Prod.fst ++ (b ++ mVs (setV (sv x) vs0) vs ++ mT tm (st x ++ a8g kt tm0)).filterMap Prod.snd) = true) (hl : hdN j (L.map Prod.fst) = true)
 (hinj : injB (bk (b ++ mVs (setV (sv x) vs0) vs ++ mT tm (st x ++ a8g kt tm0))) ((a5k (sh x) (delL dl L0)).map Prod.fst) = true)
 (hv : a9d (bk (b ++ mVs (setV (sv x) vs0) vs ++ mT tm (st x ++ a8g kt tm0))) (inH (HP (a5k (sh x) (delL dl L0)) B (fA x))) (setV (sv x) vs0) vs)
 (ht : simT (bk (b ++ mVs (setV (sv x) vs0) vs ++ mT tm (st x ++ a8g kt tm0))) (inH (HP (a5k (sh x) (delL dl L0)) B (fA x))) vs.length tm (st x ++ a8g kt tm0))
 (hH : simH (bk (b ++ mVs (setV (sv x) vs0) vs ++ mT tm (st x ++ a8g kt tm0))) (inH (HP (a5k (sh x) (delL dl L0)) B (fA x))) (HP L B A) (a5k (sh x) (delL dl L0))) : Gk c (lpS vs0 tm0 L0 B sv kt st dl sh fA x) ⟨vs, tm, HP L B A, ix⟩ :=
 gk3 b hb hA hn hl hinj hv ht hH
end Go.FM
namespace Go.FM
open Go
open Go.ChangeMaps (setBlock)
section
variable {P : Program} {X : Ctx} {c : Cfg} {w w' : World} {F F' : Nat -> Prop} {m m' : Loc -> Nat × Nat} {s s' s1 : Fs} {a a' : Act} {o : Oper} {ops : Array Oper} {Φ : Fs -> Prop} {l l1 l2 post : List Oper} {Q : Exit -> Fs -> Prop}
def WL (P : Program) (c : Cfg) (ops : Array Oper) (l : List Oper) (Φ : Fs -> Prop) (s : Fs) : Prop :=
 ∀ (X : Ctx) (a : Act) (w : World) (Q : Exit -> Act -> World -> Prop), Rel X c s a w -> (∀ s1 a' w', Φ s1 -> Rel X c s1 a' w' -> Q .normal a' w') -> wpList P ops Q l a w
theorem a1f {id : Nat} (h : ∀ K : Fs -> Prop, Kont Q K -> WL P c ops ops.toList (Fend c.keep ops K) s) : a2s P c (.region id ops false) Q s :=
 e9n (fun s' => Fend c.keep ops (Q .normal) s') (h _ fun _ h => h) fun _ h => h
theorem a0t (n : Nat) (h : wOps P c ops (l.take n) (WL P c ops (l.drop n) Φ) s) : WL P c ops l Φ s := by
 intro X a w Q hR hQ
 rw [<- List.take_append_drop n l]
 exact c5i (fun s1 a1 w1 h1 hk => hk X a1 w1 Q h1 hQ) (l.take n) s a w hR h
theorem b3r (h : wOps P c ops l Φ s) : WL P c ops l Φ s := fun X a w Q hR hQ =>
 b5g (fun s3 a3 w3 h4 h5 => hQ s3 a3 w3 h5 h4) l s a w hR h
theorem f0d (hg : Gk c s1 s) (h : WL P c ops l Φ s1) : WL P c ops l Φ s := fun X a w Q hR hQ => h X a w Q (hg X a w hR) hQ
theorem e2q {Ψ : Fs -> Prop} (hg : a2d ops o s = some true) (ho : OWp P c o s Ψ) (h : ∀ s1, Ψ s1 -> WL P c ops post Φ s1) : WL P c ops (o :: post) Φ s := by
 intro X a w Q hR hQ
 unfold wpList
 rw [if_pos (a5i hR hg)]
 exact .inl (ho X a w _ _ hR fun s2 u w2 h2 h3 => h s2 h2 X _ w2 Q h3 hQ)
theorem a1h {id : Nat} (rs : List Loc) (n : Nat) (hm : P.follows .mixedOrders = true) (hB : b7q ops n = true)
 (h : ∀ K : Fs -> Prop, Kont Q K -> awH P c ops n (WL P c ops (ops.toList.drop n) (Fend c.keep ops K)) (rmvs rs s.H) rs 0 (ops.toList.take n) s []) : a2s P c (.region id ops true) Q s :=
 e4f (fun s' => Fend c.keep ops (Q .normal) s') (fun id X a w Q' hR hQ => d0p hm hB (b4o rs s.H) (h _ fun _ h => h) (fun s1 a w ht hr => ht X a w Q' hr hQ) hR) fun _ h => h
theorem a3r {n k : Nat} {K : Fs -> Prop} {H0 : Heap} {rs : List Loc} {As : List Heap} (h : K s) : awH P c ops n K H0 rs k [] s As := h
def StL (P : Program) (c : Cfg) (ops : Array Oper) (post : List Oper) (Φ : Fs -> Prop) (x : Option Fs) : Prop := match x with
 | some s1 => WL P c ops post Φ s1
 | none => False
theorem a2p : StL P c ops post Φ (some s) = WL P c ops post Φ s := rfl
def MDo (P : Program) (c : Cfg) (ops : Array Oper) (o : Oper) (post : List Oper) (Φ : Fs -> Prop) (s : Fs) (x : Option (FuncId × List FV)) : Prop := match x with
 | some (f, A) => fnOk P f = true /\ (∀ d, o.dst = some d -> d < c.N) /\ ∃ Ψ, FCr P c.G f A s.H Ψ /\ ∀ r H', Ψ r H' -> StL P c ops post Φ (putD c o r { s with H := H' })
 | none => False
def MG (P : Program) (c : Cfg) (ops : Array Oper) (o : Oper) (post : List Oper) (Φ : Fs -> Prop) (s : Fs) (b : Option Bool) : Prop := match b with
 | some true => MDo P c ops o post Φ s (a1r s o)
 | some false => StL P c ops post Φ (putD c o (.tup []) s)
 | none => False
theorem MG_t : MG P c ops o post Φ s (some true) = MDo P c ops o post Φ s (a1r s o) := rfl
theorem MG_f : MG P c ops o post Φ s (some false) = StL P c ops post Φ (putD c o (.tup []) s) := rfl
theorem a6g (h : MG P c ops o post Φ s (a2d ops o s)) : WL P c ops (o :: post) Φ s := by
 unfold MG at h
 cases hg : a2d ops o s with
 | none => rw [hg] at h; exact h.elim
 | some b =>
   rw [hg] at h
   cases b
   . simp only at h
     unfold StL at h
     cases hp : putD c o (.tup []) s with
     | none => rw [hp] at h; exact h.elim
     | some s1 =>
       rw [hp] at h
       intro X a w Q hR hQ
       unfold wpList
       rw [if_neg (by rw [a5i hR hg]; simp)]
       exact h X _ w Q (b9i hR hp) hQ
   . simp only at h
     unfold MDo at h
     cases hc : a1r s o with
     | none => rw [hc] at h; exact h.elim
     | some x =>
       obtain ⟨f, A⟩ := x
       rw [hc] at h
       obtain ⟨h1, h2, Ψ, h3, h4⟩ := h
       refine e2q hg (e2e hc h1 h2 h3) fun s1 ⟨r, H', hΨ, hp⟩ => ?_
       have := h4 r H' hΨ
       rw [hp] at this
       exact this
theorem d3v {f : FuncId} {A : List FV} {Ψ : FV -> Heap -> Prop} (hf : fnOk P f = true) (hN : ∀ d, o.dst = some d -> d < c.N) (hfc : FCr P c.G f A s.H Ψ) (h : ∀ r H', Ψ r H' -> StL P c ops post Φ (putD c o r { s with H := H' })) : MDo P c ops o post Φ s (some (f, A)) := ⟨hf, hN, Ψ, hfc, h⟩
theorem b9o (w : World) (ty : TypeId) (r bm since c0 : Nat) (seen : Array Nat) (es : Array MapEntry) (clock : Nat)
 (hr : w.heap[r]? = some (.mapIter (some bm) since seen c0)) (hb : w.heap[bm]? = some (.map es clock)) (hold : seen = #[] \/ ∃ x ∈ es.toList, x.born < c0) :
 ((∀ x ∈ es.toList, x.born < since -> seen.contains x.born = true) /\ ∃ w1 : World, (w1 = w \/ w1 = w.drew) /\ (Instr.next (.pointer (some ⟨r, 0, none⟩)) false ty).run P w = .ok (.tuple #[.bool false]) w1) \/
 ∃ e ∈ (leftOf es seen).toList, ∃ w1 : World, (w1 = w \/ w1 = w.drew) /\ (Instr.next (.pointer (some ⟨r, 0, none⟩)) false ty).run P w = .ok (.tuple #[.bool true, e.key, e.val]) (setBlock w1 r (.mapIter (some bm) since (seen.push e.born) clock)) := by
 have htest : (!seen.isEmpty && !es.isEmpty && es.all (fun x => decide (x.born ≥ c0))) = false := by
  rcases hold with rfl | ⟨x, hx, hlt⟩
  . simp
  . have : es.all (fun x => decide (x.born ≥ c0)) = false := by
     rw [Bool.eq_false_iff]
     intro h
     rw [Array.all_eq_true_iff_forall_mem] at h
     have h1 := h x (by simpa using hx)
     simp at h1
     omega
    simp [this]
 simp only [Instr.next, getObj, Sem.run_bind, Sem.run, hr, hb, Result.andThen, htest, Bool.false_eq_true, if_false]
 have hL : leftOf es seen = Array.filter (fun e => !seen.contains e.born) es := rfl
 rw [<- hL]
 have hold' : ∀ x ∈ es.toList, x.born < since -> ((leftOf es seen).filter (fun x => decide (x.born < since))).isEmpty = true -> seen.contains x.born = true := by
  intro x hx hlt he
  rw [Array.isEmpty_iff, Array.filter_eq_empty_iff] at he
  by_cases hc : seen.contains x.born = true
  . exact hc
  . have := he x (by rw [hL, Array.mem_filter]; exact ⟨by simpa using hx, by simpa using hc⟩)
    simp at this
    omega
 generalize hO : (leftOf es seen).filter (fun x => decide (x.born < since)) = O at hold' ⊢
 generalize hN : (leftOf es seen).filter (fun x => decide (x.born ≥ since)) = N
 have hmem : ∀ x ∈ O ++ N, x ∈ (leftOf es seen).toList := by
  intro x hx
  rw [Array.mem_append, <- hO, <- hN, Array.mem_filter, Array.mem_filter] at hx
  rcases hx with hx | hx <;> simpa using hx.1
 have hch : ∀ n : Nat, 0 < n -> ∃ (j : Nat) (w1 : World), j < n /\ (w1 = w \/ w1 = w.drew) /\ (choose (Question.mapNext n)).run P w = .ok j w1 := by
  intro n hn
  by_cases hf : n <= 1
  . exact ⟨0, w, by omega, Or.inl rfl, by simp [choose, Sem.run, Question.forced, hf]⟩
  . exact ⟨_, w.drew, Nat.mod_lt _ (by omega), Or.inr rfl, by
     simp only [choose, Sem.run, Question.forced, dE_, hf, if_false, Question.cut]
     rfl⟩
 generalize hC : (if O.isEmpty = true then #[none] else #[]) ++ (O ++ N).map some = C
 have hCpos : 0 < C.size := by
  rw [<- hC, Array.size_append, Array.size_map, Array.size_append]
  by_cases he : O.isEmpty = true
  . simp [he]; omega
  . simp only [he, Bool.false_eq_true, if_false]
    have : O.size ≠ 0 := fun h => he (by simp [Array.isEmpty, h])
    simp
    omega
 obtain ⟨j, w1, hj, hal, hrun⟩ := hch C.size hCpos
 have hr1 : w1.heap[r]? = some (.mapIter (some bm) since seen c0) := by rcases hal with rfl | rfl <;> exact hr
 have hcj : C[j]? = some C[j] := Array.getElem?_eq_getElem hj
 have hm : C[j] ∈ C := Array.getElem_mem hj
 cases he : C[j] with
 | none =>
   left
   rw [he] at hm hcj
   have hempty : O.isEmpty = true := by
    rw [<- hC, Array.mem_append] at hm
    rcases hm with hm | hm
    . by_cases he : O.isEmpty = true
      . exact he
      . simp [he] at hm
    . simp at hm
   refine ⟨fun x hx hlt => hold' x hx hlt hempty, w1, hal, ?_⟩
   simp only [hrun, Result.andThen, hcj]
   rfl
 | some e =>
   right
   rw [he] at hm hcj
   have hel : e ∈ O ++ N := by
    rw [<- hC, Array.mem_append] at hm
    rcases hm with hm | hm
    . by_cases he : O.isEmpty = true
      . simp [he] at hm
      . simp [he] at hm
    . simpa using hm
   refine ⟨e, hmem e hel, w1, hal, ?_⟩
   simp only [hrun, Result.andThen, hcj, Sem.run_bind, run_setObj_at hr1]
   rfl
def f5f (s : Fs) (l k : Loc) (since : Nat) (seen : List Nat) (es : List (FV × FV × Nat)) (clk d : Nat) (s1 : Fs) : Prop :=
 ((∀ e ∈ es, e.2.2 < since -> e.2.2 ∈ seen) /\ s1 = s.put d (.tup [.bool false])) \/
 ∃ e ∈ es, e.2.2 ∉ seen /\ s1 = ({ s with H := upd s.H l (.iter (.mp k) since (seen ++ [e.2.2]) clk) }).put d (.tup [.bool true, e.1, e.2.1])
theorem d0x {it : Operand} {d : Nat} {l k : Loc} {since last clk : Nat} {seen : List Nat} {es : List (FV × FV × Nat)} (ho : o.op = .next it false) (hd : o.dst = some d) (hN : d < c.N) (hx : rv s it = .ptr l 0 0 0)
 (hl : s.H l = some (.iter (.mp k) since seen last)) (hk : s.H k = some (.map es clk)) (hold : seen = [] \/ ∃ e ∈ es, e.2.2 < last) : OWp P c o s (f5f s l k since seen es clk d) := by
 rintro X a w K Q ⟨hsz, F, m, h1, h2, h⟩ hK
 have hxv := a3a h it
 rw [hx] at hxv
 generalize hxe : a.eval it = vx at hxv
 cases hxv
 obtain ⟨h0, q, g1, g2⟩ := h.heap.obj _ _ hl
 cases g1 with
 | mp _ huk =>
 obtain ⟨hk0, ar, k1, k2⟩ := h.heap.obj _ _ hk
 have hdN : d < a.tmps.size := by rw [hsz]; exact hN
 have hfin : ∀ (v : FV) (u : Value) (w' : World) (s' : Fs), (execOp a.eval o).run P w = .ok (.value u) w' -> RelX X F m s' a w' -> RF w' F (fun l => s'.H l ≠ none) m v u -> f5f s l k since seen es clk d (s'.put d v) -> o.wp P a w K Q := by
  intro v u w' s' hrun hR hv hn
  unfold Oper.wp
  rw [hrun, Oper.upon_value]
  refine hK _ u w' hn ⟨by rw [b0f]; exact hsz, F, m, h1, h2, ?_⟩
  have := hR.put (d := d) (x := v) (v := u) hdN hv
  rw [hd]; exact this
 rcases b9o (P := P) w o.type (m l).1 (m k).1 since last seen.toArray ar clk g2 k1 (by
  rcases hold with rfl | ⟨e, he, hlt⟩
  . exact .inl rfl
  . obtain ⟨x, hx', hre⟩ := k2.mem' he
    exact .inr ⟨x, hx', by rw [hre.born]; exact hlt⟩) with ⟨hz, w1, hw1, hrun⟩ | ⟨x, hxm, w1, hw1, hrun⟩
 . have hR1 : RelX X F m s a w1 := by rcases hw1 with rfl | rfl; exact h; exact h.drew
   refine hfin (.tup [.bool false]) (.tuple #[.bool false]) w1 s ?_ hR1 (by simpa using RF.tup _ _ (.cons _ _ _ _ (.bool false) .nil)) (.inl ⟨fun e he hlt => ?_, rfl⟩)
   . simp only [execOp, ho, hxe, Nat.zero_mul, Nat.add_zero, Sem.run_bind, hrun]; rfl
   . obtain ⟨x, hx', hre⟩ := k2.mem' he
     have := hz x hx' (by rw [hre.born]; exact hlt)
     rw [<- hre.born]
     simpa using this
 . have hxl : x ∈ ar.toList /\ x.born ∉ seen := by
    unfold leftOf at hxm
    simpa using hxm
   obtain ⟨e, he, hre⟩ := k2.mem hxl.1
   have hR1 : RelX X F m s a w1 := by rcases hw1 with rfl | rfl; exact h; exact h.drew
   have g21 : w1.heap[(m l).1]? = some (.mapIter (some (m k).1) since seen.toArray last) := by rcases hw1 with rfl | rfl <;> exact g2
   have hT := hR1.turn (o := .iter (.mp k) since (seen ++ [e.2.2]) clk) (ob := .mapIter (some (m k).1) since (seen.toArray.push x.born) clk) hl (by simp) h0 (by simp) g21 (fun w' q1 q2 => by
    refine ⟨h0, some (m k).1, .mp k (by unfold upd; split <;> simp [huk]), ?_⟩
    rw [q1, <- hre.born]
    simp)
   have hre1 : RE w1 F (fun l => s.H l ≠ none) m e x := by rcases hw1 with rfl | rfl; exact hre; exact ⟨hre.key.drewn, hre.val.drewn, hre.born⟩
   have hbl := fun b (hb : F b) => (MapKept.heap_set (o' := .mapIter (some (m k).1) since (seen.toArray.push x.born) clk) g21).2 b fun e => (hR1.heap.old l ⟨_, hl, by simp, h0⟩).2 (e ▸ hb)
   have hU : ∀ k', s.H k' ≠ none -> upd s.H l (.iter (.mp k) since (seen ++ [e.2.2]) clk) k' ≠ none := fun k' hk' => by unfold upd; split <;> simp [hk']
   have hv := RFs.cons _ _ _ _ (RF.bool (w := setBlock w1 (m l).1 (.mapIter (some (m k).1) since (seen.toArray.push x.born) clk)) (F := F) (U := fun k' => upd s.H l (.iter (.mp k) since (seen ++ [e.2.2]) clk) k' ≠ none) (m := m) true)
    (.cons _ _ _ _ (hre1.key.keep (fun _ h => h) hbl hU (fun _ _ => rfl)) (.cons _ _ _ _ (hre1.val.keep (fun _ h => h) hbl hU (fun _ _ => rfl)) .nil))
   refine hfin (.tup [.bool true, e.1, e.2.1]) (.tuple #[.bool true, x.key, x.val]) _ { s with H := upd s.H l (.iter (.mp k) since (seen ++ [e.2.2]) clk) } ?_ hT (RF.tup _ _ hv) (.inr ⟨e, he, by rw [<- hre.born]; exact hxl.2, rfl⟩)
   simp only [execOp, ho, hxe, Nat.zero_mul, Nat.add_zero, Sem.run_bind, hrun]; rfl
theorem c3j {it : Operand} {d : Nat} {l k : Loc} {since last clk : Nat} {seen : List Nat} {es : List (FV × FV × Nat)} (hg : a2d ops o s = some true) (ho : o.op = .next it false) (hd : o.dst = some d) (hN : d < c.N) (hx : rv s it = .ptr l 0 0 0)
 (hl : s.H l = some (.iter (.mp k) since seen last)) (hk : s.H k = some (.map es clk)) (hold : seen = [] \/ ∃ e ∈ es, e.2.2 < last)
 (h1 : (∀ e ∈ es, e.2.2 < since -> e.2.2 ∈ seen) -> WL P c ops post Φ (s.put d (.tup [.bool false])))
 (h2 : ∀ e ∈ es, e.2.2 ∉ seen -> WL P c ops post Φ (({ s with H := upd s.H l (.iter (.mp k) since (seen ++ [e.2.2]) clk) }).put d (.tup [.bool true, e.1, e.2.1]))) : WL P c ops (o :: post) Φ s :=
 e2q hg (d0x ho hd hN hx hl hk hold) fun s1 h => by
  rcases h with ⟨hz, rfl⟩ | ⟨e, he, hn, rfl⟩
  . exact h1 hz
  . exact h2 e he hn
end
end Go.FM
namespace Go.FM
open Go
section
variable {P : Program} {G : List (Nat × List Value)}
theorem FC.frozen {f : FuncId} {args : List FV} {H : Heap} {l : Loc} {T : TypeId} {sz : Nat} {xs : List (List FV)} (h : FC P G f args H (.sl l sz 0 xs.length) (upd H l (.cells T sz xs))) (h0 : H l = none) (hn : nlss xs = true) (hc : Clo H) : FC P G f args H (.list sz xs) H := by
 intro w F m vs hF hG hv hH
 refine (h w F m vs hF hG hv hH).mono ?_
 rintro e w' ⟨v, F', m', he, k1, k2, k3, k4, k5, k6, k7, k8, k9⟩
 have hself : upd H l (.cells T sz xs) l = some (.cells T sz xs) := by simp [upd]
 have hne : ∀ q, H q ≠ none -> q ≠ l := fun q hq e => hq (e ▸ h0)
 have hup : ∀ q o, H q = some o -> upd H l (.cells T sz xs) q = some o := fun q o hq => by
  have := hne q (by simp [hq])
  simp [upd, this, hq]
 have live : ∀ q, Live H m' q -> Live (upd H l (.cells T sz xs)) m' q := fun q ⟨o, g1, g2⟩ => ⟨o, hup q o g1, g2⟩
 let F2 : Nat -> Prop := fun b => F' b \/ (Live (upd H l (.cells T sz xs)) m' l /\ (m' l).1 = b)
 have hF2 : ∀ b, F' b -> F2 b := fun _ h => .inl h
 have hB : FzB w' F2 m' l sz xs := by
  refine ⟨hn, ?_⟩
  rcases k5.obj l _ hself with ⟨g1, g2⟩ | ⟨g0, cc, g1, g2, g3, g4, g5⟩
  . exact .inl ⟨g1, g2⟩
  . refine .inr ⟨g0, .inr ⟨⟨_, hself, by simp, g0⟩, rfl⟩, T, cc, g1, g3, ?_⟩
    exact (g5.keep (w' := w') (F' := F2) (U' := fun q => upd H l (.cells T sz xs) q ≠ none) (m' := m') hF2 (fun _ _ => rfl) (fun _ h => h) (fun _ _ => rfl)).nameless (by rw [<- a5q]; exact hn) _ _
 have hr := RF.fz (U' := fun q => H q ≠ none) k4 hB hF2 (fun q hq hql => by
  simp only [upd, hql, if_false] at hq; exact hq)
 have er : FM.fz l sz xs (.sl l sz 0 xs.length) = .list sz xs := by simp [FM.fz]
 rw [er] at hr
 have hlnew : Live (upd H l (.cells T sz xs)) m' l -> w.heap.size <= (m' l).1 := fun hl => by
  rcases k6 l hl with ⟨k, hk, e⟩ | h
  . exfalso
    obtain ⟨o, g1, g2, g3⟩ := hk
    have hm := (k3 k (by simp [g1])).1
    have : k = l := k5.inj k l ⟨o, hup k o g1, g2, by rw [hm]; exact g3⟩ hl (by rw [hm]; exact e)
    subst this
    rw [h0] at g1; cases g1
  . exact h
 refine ⟨v, F2, m', he, fun y hy => .inl (k1 y hy), fun y hy => ?_, fun q hq => ⟨(k3 q hq).1, hq⟩, hr, ⟨fun q o hq => ?_, fun q q' hq hq' => k5.inj q q' (live q hq) (live q' hq'), fun q hq => ⟨(k5.old q (live q hq)).1, ?_⟩⟩, fun q hq => k6 q (live q hq), k7, k8, k9⟩
 . rcases hy with hy | ⟨hl, rfl⟩
   . exact k2 y hy
   . exact ⟨.inr (hlnew hl), (k5.old l hl).1⟩
 . exact ((k5.obj q o (hup q o hq)).keep (F' := F2) hF2 (fun _ _ => rfl) (fun _ h => h) (fun _ _ => rfl) rfl (fun _ _ => rfl)).nin (hc q o hq)
 . rintro (hy | ⟨hl, e⟩)
   . exact (k5.old q (live q hq)).2 hy
   . have : q = l := k5.inj q l (live q hq) hl e.symm
     subst this
     obtain ⟨o, g1, _⟩ := hq
     rw [h0] at g1; cases g1
theorem FC.asR' {f : FuncId} {args : List FV} {H H' : Heap} {r r' : FV} (h : FC P G f args H r H') (hr : asR r r') : FC P G f args H r' H' := by
 intro w F m vs hF hG hv hH
 refine (h w F m vs hF hG hv hH).mono ?_
 rintro e w' ⟨v, F', m', he, k1, k2, k3, k4, k5⟩
 exact ⟨v, F', m', he, k1, k2, k3, k4.asR hr, k5⟩
end
theorem d4v {j : Nat} {L : List (Loc × FO)} {B : Heap} {r : List Nat} {o : FO} (fb : ∀ r, B (j :: r) = none) (hl : hdN j (L.map Prod.fst) = true) (h : updL L B (j :: r) = some o) : HSub (updL [(j :: r, o)] B) (updL L B) := by
 intro k q hk
 simp only [updL, upd] at hk
 split at hk
 . rename_i e; subst e
   obtain rfl := sI_ hk
   exact h
 . rw [a5h fun p hp e => ?_]
   . exact hk
   . obtain ⟨s, hs⟩ := a7m hl p.1 (List.mem_map.2 ⟨p, hp, rfl⟩)
     rw [<- e, hs, fb s] at hk
     cases hk
class Stp (G : Prop) (H : outParam Prop) : Prop where
 go : H -> G
class StpK (G : Prop) (H : outParam Prop) : Prop where
 go : H -> G
class StpC (G : Prop) (H : outParam Prop) : Prop where
 go : H -> G
class Stp2 (G : Prop) (H1 H2 : outParam Prop) : Prop where
 go : H1 -> H2 -> G
theorem stp {G H : Prop} [i : Stp G H] (h : H) : G := i.go h
theorem stpK {G H : Prop} [i : StpK G H] (h : H) : G := i.go h
theorem stpC {G H : Prop} [i : StpC G H] (h : H) : G := i.go h
theorem stp2 {G H1 H2 : Prop} [i : Stp2 G H1 H2] (h1 : H1) (h2 : H2) : G := i.go h1 h2
section
variable {P : Program} {c : Cfg} {Q : Exit -> Fs -> Prop} {s : Fs} {K : Fs -> Prop} {ops : Array Oper} {o : Oper} {rest : List Oper} {Φ : FV -> Heap -> Prop} {id i : Nat} {x y b : Code} {res : List ResultVar} {r : FV} {H H' : Heap} {T E : Fs -> Prop} {p : Prop} [Decidable p] {d : Bool} {n k : Nat} {H0 Hn : Heap} {rs : List Loc} {As : List Heap}
instance : Stp (a2s P c (.seq x y) Q s) (a2s P c x (KSeq P c y Q) s) := ⟨f9s⟩
instance : Stp (a2s P c (.block id b) Q s) (a2s P c b (KBlk id Q) s) := ⟨f4z⟩
instance : StpK (a2s P c (.region id ops false) Q s) (∀ K : Fs -> Prop, Kont Q K -> wOps P c ops ops.toList (Fend c.keep ops K) s) := ⟨f4w⟩
instance : Stp (a2s P c .skip Q s) (Q .normal s) := ⟨e9m⟩
instance : Stp (a2s P c .ret Q s) (Q .ret s) := ⟨f4v⟩
instance : Stp (a2s P c (.exit id) Q s) (Q (.exit id) s) := ⟨e9o⟩
instance {v : Operand} : StpC (a2s P c (.cond v x y) Q s) (∀ T E : Fs -> Prop, KT P c x Q T -> KT P c y Q E -> b1s T E s (b7s s v)) := ⟨f4y⟩
instance : Stp (KSeq P c y Q .normal s) (a2s P c y Q s) := ⟨kseq⟩
instance : Stp (KSeq P c y Q .ret s) (Q .ret s) := ⟨f2u⟩
instance : Stp (KSeq P c y Q (.exit i) s) (Q (.exit i) s) := ⟨f2v⟩
instance : Stp (KBlk id Q .normal s) (Q .normal s) := ⟨kblk⟩
instance : Stp (KBlk id Q .ret s) (Q .ret s) := ⟨f2w⟩
instance : Stp (KBlk id Q (.exit id) s) (Q .normal s) := ⟨e0j⟩
instance {σ : Type} {st : σ -> Fs} {μ : σ -> Nat} {x : σ} : Stp (c1g c st μ x Q .ret s) (Q .ret s) := ⟨e7l⟩
instance {σ : Type} {st : σ -> Fs} {μ : σ -> Nat} {x : σ} : Stp (c1g c st μ x Q (.exit i) s) (Q (.exit i) s) := ⟨e7m⟩
instance : Stp (PEnd P res r .ret s) (PFin (b6l s.H (resL P s res)) r) := ⟨f1y⟩
instance : Stp (PEnd P res r .normal s) (PFin (b6l s.H (resL P s res)) r) := ⟨f1z⟩
instance : Stp (NEnd P res r .ret s) (PFin (b1p s.H (resL P s res)) r) := ⟨f2e⟩
instance : Stp (NEnd P res r .normal s) (PFin (b1p s.H (resL P s res)) r) := ⟨f2f⟩
instance : Stp (LEnd P res H Φ .ret s) (LFin H Φ s.H (resL P s res)) := ⟨f2r⟩
instance : Stp (LEnd P res H Φ .normal s) (LFin H Φ s.H (resL P s res)) := ⟨f2s⟩
instance : Stp (KEnd P res r H' .ret s) (KFin r H' s.H (resL P s res)) := ⟨e3j⟩
instance : Stp (KEnd P res r H' .normal s) (KFin r H' s.H (resL P s res)) := ⟨e3k⟩
instance : Stp (GOp P c ops o rest K s (some true)) (DoOp P c ops o rest K s (a1r s o)) := ⟨f7z⟩
instance : Stp (GOp P c ops o rest K s (some false)) (StK P c ops rest K (putD c o (.tup []) s)) := ⟨f8a⟩
instance : Stp (b1s T E s (some true)) (T s) := ⟨f4h⟩
instance : Stp (b1s T E s (some false)) (E s) := ⟨f4i⟩
instance : Stp2 (GOp P c ops o rest K s (some d)) (d = true -> DoOp P c ops o rest K s (a1r s o)) (d = false -> StK P c ops rest K (putD c o (.tup []) s)) := ⟨e3n⟩
instance : Stp2 (HG P c ops n K H0 rs k o rest s As Hn (some d)) (d = true -> HDo P c ops n K H0 rs k o rest s As Hn (a1r s o)) (d = false -> HNx P c ops n K H0 rs k o rest s As (some (.tup [], noH))) := ⟨d4x⟩
instance : Stp2 (b1s T E s (some d)) (d = true -> T s) (d = false -> E s) := ⟨e4a⟩
instance : Stp2 (GOp P c ops o rest K s (some !d)) (d = false -> DoOp P c ops o rest K s (a1r s o)) (d = true -> StK P c ops rest K (putD c o (.tup []) s)) := ⟨c7q⟩
instance : Stp2 (HG P c ops n K H0 rs k o rest s As Hn (some !d)) (d = false -> HDo P c ops n K H0 rs k o rest s As Hn (a1r s o)) (d = true -> HNx P c ops n K H0 rs k o rest s As (some (.tup [], noH))) := ⟨c2r⟩
instance : Stp2 (b1s T E s (some !d)) (d = false -> T s) (d = true -> E s) := ⟨e3z⟩
instance : Stp2 (GOp P c ops o rest K s (some (decide p))) (p -> DoOp P c ops o rest K s (a1r s o)) (¬ p -> StK P c ops rest K (putD c o (.tup []) s)) := ⟨e0s⟩
instance : Stp2 (HG P c ops n K H0 rs k o rest s As Hn (some (decide p))) (p -> HDo P c ops n K H0 rs k o rest s As Hn (a1r s o)) (¬ p -> HNx P c ops n K H0 rs k o rest s As (some (.tup [], noH))) := ⟨d4w⟩
instance : Stp2 (b1s T E s (some (decide p))) (p -> T s) (¬ p -> E s) := ⟨f4j⟩
instance : Stp2 (GOp P c ops o rest K s (some !decide p)) (¬ p -> DoOp P c ops o rest K s (a1r s o)) (p -> StK P c ops rest K (putD c o (.tup []) s)) := ⟨d5f⟩
instance : Stp2 (HG P c ops n K H0 rs k o rest s As Hn (some !decide p)) (¬ p -> HDo P c ops n K H0 rs k o rest s As Hn (a1r s o)) (p -> HNx P c ops n K H0 rs k o rest s As (some (.tup [], noH))) := ⟨d0c⟩
instance : Stp2 (b1s T E s (some !decide p)) (¬ p -> T s) (p -> E s) := ⟨e8n⟩
end
end Go.FM
namespace Go.FM
open Go
set_option maxRecDepth 100000
set_option linter.defProp false
def DEFO := And.intro @Go.FM.a1l (And.intro @Go.FM.Fs.init.eq_def (And.intro @Go.FM.Fs.get.eq_def (And.intro @Go.FM.Fs.put.eq_def (And.intro @Go.FM.Fs.clean.eq_def (And.intro @Go.FM.lk.eq_1 (And.intro @Go.FM.lk.eq_2 (And.intro @Go.FM.upd.eq_def (And.intro @Go.FM.ext.eq_def (And.intro @Go.FM.noH.eq_def (And.intro @Go.FM.cv1.eq_def (And.intro @Go.FM.cv.eq_def (And.intro @Go.FM.rv.eq_def (And.intro @Go.FM.FV.isU.eq_def (And.intro @Go.FM.FV.cellV.eq_def (And.intro @Go.FM.FV.cellsL.eq_def (And.intro @Go.FM.FV.storable.eq_def (And.intro @Go.FM.b4f.eq_def (And.intro @Go.FM.b6u.eq_def (And.intro @Go.FM.b6t.eq_def (And.intro @Go.FM.fLen.eq_def (And.intro @Go.FM.fBin.eq_def (And.intro @Go.FM.fUn.eq_def (And.intro @Go.FM.c4q.eq_def (And.intro @Go.FM.b7n.eq_def (And.intro @Go.FM.b6s.eq_def (And.intro @Go.FM.a7x.eq_1 (And.intro @Go.FM.a7x.eq_2 (And.intro @Go.FM.b2q.eq_1 (And.intro @Go.FM.b2q.eq_2 (And.intro @Go.FM.pv.eq_def (And.intro @Go.FM.pv1.eq_def (And.intro @Go.FM.pv2.eq_def (And.intro @Go.FM.wv.eq_def (And.intro @Go.FM.b3t.eq_def (And.intro @Go.FM.wBox.eq_def (And.intro @Go.FM.a7v.eq_def (And.intro @Go.FM.a7c.eq_def (And.intro @Go.FM.b3s.eq_def (And.intro @Go.FM.b1v.eq_def (And.intro @Go.FM.b1f.eq_def (And.intro @Go.FM.wApp.eq_def (And.intro @Go.FM.srcA.eq_def (And.intro @Go.FM.a6q.eq_1 (And.intro @Go.FM.a6q.eq_2 (And.intro @Go.FM.upds.eq_def (And.intro @List.foldl_cons.{0,0} (And.intro @List.foldl_nil.{0,0} (And.intro @Go.FM.b2s.eq_def (And.intro @Go.FM.fNil.eq_def (And.intro @Go.FM.fUn2.eq_def (And.intro @Go.FM.c4r.eq_def (And.intro @Go.FM.fCmp.eq_def (And.intro @Go.FM.c2v.eq_def (And.intro @Go.FM.eqK.eq_1 (And.intro @Go.FM.eqK.eq_2 (And.intro @Go.FM.a3q.eq_1 (And.intro @Go.FM.a3q.eq_2 (And.intro @Go.FM.a3q.eq_3 (And.intro @Go.FM.eqV.eq_1 (And.intro @Go.FM.eqV.eq_2 (And.intro @Go.FM.eqV.eq_3 (And.intro @Go.FM.eqV.eq_4 (And.intro @Go.FM.FV.kd.eq_def (And.intro @Go.FM.c4s.eq_def (And.intro @Go.FM.nilV.eq_def (And.intro @Go.FM.putD.eq_def (And.intro @Go.FM.b1q.eq_def (And.intro @Go.FM.a1r.eq_def (And.intro @Go.FM.a2d.eq_def (And.intro @Go.FM.b0w.eq_1 (And.intro @Go.FM.b0w.eq_2 (And.intro @Go.FM.a4b.eq_def (And.intro @Go.FM.b7s.eq_def (And.intro @Go.FM.resV.eq_def (And.intro @Go.FM.resL.eq_1 (And.intro @Go.FM.resL.eq_2 (And.intro @Go.FM.a3n.eq_def (And.intro @Go.FM.StK.eq_def (And.intro @Go.FM.b4j (And.intro @Go.FM.b1u (And.intro @Go.FM.e2o (And.intro @Go.FM.e2p (And.intro @Go.FM.c9e (And.intro @Go.FM.c9f (And.intro @Go.FM.b7p.eq_def (And.intro @Go.FM.HG_t (And.intro @Go.FM.HG_f (And.intro @Go.FM.e2m (And.intro @Go.FM.e2n (And.intro @Go.FM.nl.eq_1 (And.intro @Go.FM.nl.eq_2 (And.intro @Go.FM.nl.eq_3 (And.intro @Go.FM.nl.eq_4 (And.intro @Go.FM.nl.eq_5 (And.intro @Go.FM.nl.eq_6 (And.intro @Go.FM.nl.eq_7 (And.intro @Go.FM.nl.eq_8 (And.intro @Go.FM.nl.eq_9 (And.intro @Go.FM.nl.eq_10 (And.intro @Go.FM.nl.eq_11 (And.intro @Go.FM.nl.eq_12 (And.intro @Go.FM.nl.eq_13 (And.intro @Go.FM.nl.eq_14 (And.intro @Go.FM.nl.eq_15 (And.intro @Go.FM.nl.eq_16 (And.intro @Go.FM.nl.eq_17 (And.intro @Go.FM.nls.eq_1 (And.intro @Go.FM.nls.eq_2 (And.intro @Go.FM.nlss.eq_1 (And.intro @Go.FM.nlss.eq_2 (And.intro @Go.FM.frz.eq_1 (And.intro @Go.FM.frz.eq_2 (And.intro @Go.FM.frz.eq_3 (And.intro @Go.FM.frz.eq_4 (And.intro @Go.FM.frz.eq_5 (And.intro @Go.FM.frzs.eq_1 (And.intro @Go.FM.frzs.eq_2 (And.intro @Go.FM.frzs.eq_3 (And.intro @Go.FM.frzR.eq_1 (And.intro @Go.FM.frzR.eq_2 (And.intro @Go.FM.frzR.eq_3 (And.intro @Go.FM.asR.eq_1 (And.intro @Go.FM.asR.eq_2 (And.intro @Go.FM.asR.eq_3 (And.intro @Go.FM.asR.eq_4 (And.intro @Go.FM.asRs.eq_1 (And.intro @Go.FM.asRs.eq_2 (And.intro @Go.FM.Fend.eq_def (And.intro @Go.FM.c9a (And.intro @Go.FM.b5a (And.intro @Go.FM.b2o (And.intro @Go.FM.frzN.eq_def (And.intro @Go.FM.nf.eq_1 (And.intro @Go.FM.nf.eq_2 (And.intro @Go.FM.nf.eq_3 (And.intro @Go.FM.nf.eq_4 (And.intro @Go.FM.nf.eq_5 (And.intro @Go.FM.nf.eq_6 (And.intro @Go.FM.nf.eq_7 (And.intro @Go.FM.nf.eq_8 (And.intro @Go.FM.nf.eq_9 (And.intro @Go.FM.nf.eq_10 (And.intro @Go.FM.nf.eq_11 (And.intro @Go.FM.nf.eq_12 (And.intro @Go.FM.nf.eq_13 (And.intro @Go.FM.nf.eq_14 (And.intro @Go.FM.nf.eq_15 (And.intro @Go.FM.nf.eq_16 (And.intro @Go.FM.nf.eq_17 (And.intro @Go.FM.nfs.eq_1 (And.intro @Go.FM.nfs.eq_2 (And.intro @Go.FM.a4w (And.intro @Go.FM.a3l (And.intro @Go.FM.a8q.eq_def (@Go.FM.b3j.eq_def)))))))))))))))))))))))))))))))))))))))))))))))))))))))))))))))))))))))))))))))))))))))))))))))))))))))))))))))))))))))))))))))))))))))))))))))))))))))))))
def SIMF := And.intro @Go.FM.b8g (And.intro @Go.FM.c6x (And.intro @Go.FM.d3q (And.intro @Go.FM.a4q (And.intro @Go.FM.nlss.eq_1 (And.intro @Go.FM.nlss.eq_2 (And.intro @Go.FM.nls.eq_1 (And.intro @Go.FM.nls.eq_2 (And.intro @Go.FM.nl.eq_1 (And.intro @Go.FM.nl.eq_2 (And.intro @Go.FM.nl.eq_3 (And.intro @Go.FM.nl.eq_4 (And.intro @Go.FM.nl.eq_5 (And.intro @Go.FM.nl.eq_6 (And.intro @Go.FM.nl.eq_7 (And.intro @Go.FM.nl.eq_8 (And.intro @Go.FM.nl.eq_9 (And.intro @Go.FM.nl.eq_10 (And.intro @Go.FM.nl.eq_11 (And.intro @Go.FM.nl.eq_12 (And.intro @Go.FM.nl.eq_13 (And.intro @Go.FM.nl.eq_14 (And.intro @Go.FM.nl.eq_15 (And.intro @Go.FM.nl.eq_16 (And.intro @Go.FM.nl.eq_17 (And.intro @Go.FM.a9d.eq_1 (And.intro @Go.FM.a9d.eq_2 (And.intro @Go.FM.a9d.eq_3 (And.intro @Go.FM.simV.eq_def (And.intro @Go.FM.simT.eq_1 (And.intro @Go.FM.simT.eq_2 (And.intro @Go.FM.simH.eq_1 (And.intro @Go.FM.simH.eq_2 (And.intro @Go.FM.simO.eq_def (And.intro @Go.FM.renO.eq_def (And.intro @Go.FM.innO.eq_def (And.intro @Go.FM.ren.eq_1 (And.intro @Go.FM.ren.eq_2 (And.intro @Go.FM.ren.eq_3 (And.intro @Go.FM.ren.eq_4 (And.intro @Go.FM.ren.eq_5 (And.intro @Go.FM.ren.eq_6 (And.intro @Go.FM.ren.eq_7 (And.intro @Go.FM.inn.eq_1 (And.intro @Go.FM.inn.eq_2 (And.intro @Go.FM.inn.eq_3 (And.intro @Go.FM.inn.eq_4 (And.intro @Go.FM.inn.eq_5 (And.intro @Go.FM.inn.eq_6 (And.intro @Go.FM.inn.eq_7 (And.intro @Go.FM.inn.eq_8 (And.intro @Go.FM.inn.eq_9 (And.intro @Go.FM.rens.eq_1 (And.intro @Go.FM.rens.eq_2 (And.intro @Go.FM.inns.eq_1 (And.intro @Go.FM.inns.eq_2 (And.intro @Go.FM.renss.eq_1 (And.intro @Go.FM.renss.eq_2 (And.intro @Go.FM.a6v.eq_1 (And.intro @Go.FM.a6v.eq_2 (And.intro @Go.FM.rene.eq_1 (And.intro @Go.FM.rene.eq_2 (And.intro @Go.FM.inne.eq_1 (And.intro @Go.FM.inne.eq_2 (And.intro @Go.FM.bk.eq_1 (And.intro @Go.FM.bk.eq_2 (And.intro @Go.FM.hpL.eq_1 (And.intro @Go.FM.hpL.eq_2 (And.intro @Go.FM.upd.eq_def (And.intro @Go.FM.noH.eq_def (And.intro @Go.FM.ext.eq_def (And.intro @Go.FM.lk.eq_1 (And.intro @Go.FM.lk.eq_2 (And.intro @Go.FM.b0h (And.intro @Go.FM.b0o (And.intro @Go.FM.a9t (@Go.FM.a9x))))))))))))))))))))))))))))))))))))))))))))))))))))))))))))))))))))))))))))
end Go.FM
namespace Go.FM
open Go
section
variable {P : Program} {c : Cfg} {Q : Exit -> Fs -> Prop} {s : Fs} {K : Fs -> Prop} {ops : Array Oper} {o : Oper} {rest : List Oper}
theorem e9p {n k : Nat} {H0 : Heap} {rs : List Loc} {As : List Heap} (Hn : Heap) (hk : k < n) (hd : b7r ops n k o = true) (hneed : ∀ l ob, Hn l = some ob -> H0 l = some ob \/ (l ∉ rs /\ ∃ j Aj, As[j]? = some Aj /\ a3v o j = true /\ Aj l = some ob))
 (h : HG P c ops n K H0 rs k o rest s As Hn (a2d ops o s)) : awH P c ops n K H0 rs k (o :: rest) s As := by
 simp only [awH, hk, if_true]
 unfold HG HDo HCl at h
 have hgs : a2d ops o { s with H := Hn } = a2d ops o s := rfl
 have hcs : a1r { s with H := Hn } o = a1r s o := rfl
 cases hg : a2d ops o s with
 | none => rw [hg] at h; exact h.elim
 | some b =>
   rw [hg] at h
   cases b
   . simp only [HNx] at h
     cases hdst : o.dst with
     | none => rw [hdst] at h; exact h.elim
     | some d =>
       rw [hdst] at h
       obtain ⟨h1, h2, h3⟩ := h
       exact ⟨d, _, noH, Hn, _, (c8n (hgs.trans hg) hdst h1).two, hd, fun l hl => .inr (h2 l hl), fun _ h => h.elim, fun l ob hl => (hneed l ob hl).imp_right .inr, h3⟩
   . simp only at h
     cases hc : a1r s o with
     | none =>
       rw [hc] at h
       simp only [HNx] at h
       split at h
       . rename_i v A d hm hdst
         obtain ⟨h1, h2, h3⟩ := h
         exact ⟨d, v, A, Hn, _, (b3d (hgs.trans hg) (hcs.trans hc) hdst h1 hm).two, hd, fun l hl => .inr (h2 l hl), fun _ h => h.elim, fun l ob hl => (hneed l ob hl).imp_right .inr, h3⟩
       . exact h.elim
     | some x =>
       obtain ⟨f, A⟩ := x
       rw [hc] at h
       simp only at h
       obtain ⟨hf, v, B, hfc, h⟩ := h
       simp only [HNx] at h
       cases hdst : o.dst with
       | none => rw [hdst] at h; exact h.elim
       | some d =>
         rw [hdst] at h
         obtain ⟨h1, h2, h3⟩ := h
         exact ⟨d, v, B, Hn, _, (c3a (hgs.trans hg) (hcs.trans hc) hf hdst h1 hfc).two, hd, fun l hl => .inr (h2 l hl), fun _ h => h.elim, fun l ob hl => (hneed l ob hl).imp_right .inr, h3⟩
theorem e9q {n k : Nat} {H0 : Heap} {rs : List Loc} {As : List Heap} (j : Nat) (l0 : Loc) (ob0 : FO) (hk : k < n) (hd : b7r ops n k o = true) (hj : As[j]? = some (upd noH l0 ob0)) (hw : a3v o j = true) (hl : l0 ∉ rs)
 (h : HG P c ops n K H0 rs k o rest s As (upd H0 l0 ob0) (a2d ops o s)) : awH P c ops n K H0 rs k (o :: rest) s As :=
 e9p (upd H0 l0 ob0) hk hd (fun l ob hl' => by
  unfold upd at hl'
  split at hl'
  . rename_i e
    subst e
    exact .inr ⟨hl, j, _, hj, hw, by rw [<- hl']; simp [upd]⟩
  . exact .inl hl') h
theorem hclH {n k : Nat} {H0 Hn : Heap} {rs : List Loc} {As : List Heap} {f : FuncId} {b : Bool} {A : List FV} (h : HCl P c ops n K H0 rs k o rest s As Hn f b A) : HCl P c ops n K H0 rs k o rest s As Hn f b A := h
theorem hfc0 {n k : Nat} {H0 Hn : Heap} {rs : List Loc} {As : List Heap} {f : FuncId} {A : List FV} {v : FV} (hp : ∀ H2, HSub Hn H2 -> FC P c.G f A H2 v H2) (h : HNx P c ops n K H0 rs k o rest s As (some (v, noH))) : HCl P c ops n K H0 rs k o rest s As Hn f true A :=
 ⟨rfl, v, noH, fun H2 hs _ => by rw [a1l]; exact hp H2 hs, h⟩
end
def c8l (N : Nat) (ops : Array Oper) (n k : Nat) (o : Oper) : Bool :=
 (deps ops o).all fun t => decide (t < N) && ((List.range n).all fun j => !(((ops[j]?).bind (·.dst)) == some t) || (decide (j < k) && a3v o j))
def f6l (N : Nat) (o : Oper) (k d : Nat) (v : FV) : Prop := (o.dst = some d /\ d < N) \/ (o.dst = none /\ d = N + k /\ v = .undef)
def e9y (P : Program) (c : Cfg) (ops : Array Oper) (o : Oper) (s : Fs) (k d : Nat) (v : FV) (A : Heap) (kl : Loc -> Prop) : Prop :=
 f6l c.N o k d v /\
 ∀ (X : Ctx) (s2 : Fs) (a : Act) (w : World) (K : Act -> World -> Prop) (Q : Exit -> Act -> World -> Prop), (∀ t ∈ deps ops o, s2.get t = s.get t) -> s2.ix = s.ix -> HSub s.H s2.H -> (∀ l, A l ≠ none -> ¬ kl l -> s2.H l = none) -> Rel X c s2 a w ->
   (∀ u w', Rel X c ({ s2 with H := ext s2.H A }.put d v) (a.put o.dst u) w' -> K (a.put o.dst u) w') ->
   if Region.wanted o (yielded ops a.tmps) then o.wp P a w K Q \/ (o.asks P a w /\ LetsOut Q) else K (a.put o.dst undef) w
theorem d0s.three {P : Program} {c : Cfg} {ops : Array Oper} {o : Oper} {s : Fs} {d : Nat} {v : FV} {A : Heap} {kl : Loc -> Prop} (h : d0s P c ops o s d v A kl) (k : Nat) : e9y P c ops o s k d v A kl := ⟨.inl ⟨h.1, h.2.1⟩, h.2.2⟩
def awH3 (P : Program) (c : Cfg) (ops : Array Oper) (n : Nat) (K : Fs -> Prop) (H0 : Heap) (rs : List Loc) : Nat -> List Oper -> Fs -> List Heap -> Prop
 | k, o :: rest, s, As => if k < n then ∃ d v A Hn kl, e9y P c ops o { s with H := Hn } k d v A kl /\ c8l c.N ops n k o = true /\ (∀ l, A l ≠ none -> kl l \/ s.H l = none) /\ (∀ l, kl l -> A l ≠ none /\ l ∈ rs /\ H0 l = none /\ ∀ (j : Nat) (Aj : Heap), As[j]? = some Aj -> Aj l ≠ none -> a3v o j = true) /\
  (∀ l ob, Hn l = some ob -> H0 l = some ob \/ (kl l /\ s.H l = some ob) \/ (l ∉ rs /\ ∃ j Aj, As[j]? = some Aj /\ a3v o j = true /\ Aj l = some ob)) /\ awH3 P c ops n K H0 rs (k + 1) rest ({ s with H := ext s.H A }.put d v) (As ++ [A])
  else wOps P c ops (o :: rest) K s
 | _, [], s, _ => K s
structure TraceOk3 (P : Program) (c : Cfg) (ops : Array Oper) (n : Nat) (H0 : Heap) (rs : List Loc) (k : Nat) (T : Trace) : Prop where
 step : ∀ i, k <= i -> i < n -> ∃ o Hn kl, ops[i]? = some o /\ e9y P c ops o { T.sA i with H := Hn } i (T.dA i) (T.vA i) (T.AA i) kl /\ c8l c.N ops n i o = true /\ (∀ l, T.AA i l ≠ none -> kl l \/ (T.sA i).H l = none) /\ (∀ l, kl l -> T.AA i l ≠ none /\ l ∈ rs /\ H0 l = none /\ ∀ j, j < i -> T.AA j l ≠ none -> a3v o j = true) /\
  (∀ l ob, Hn l = some ob -> H0 l = some ob \/ (kl l /\ (T.sA i).H l = some ob) \/ (l ∉ rs /\ ∃ j, j < i /\ a3v o j = true /\ T.AA j l = some ob)) /\ T.sA (i + 1) = { T.sA i with H := ext (T.sA i).H (T.AA i) }.put (T.dA i) (T.vA i)
theorem b8y {P : Program} {c : Cfg} {ops : Array Oper} {n : Nat} {K : Fs -> Prop} {H0 : Heap} {rs : List Loc} (hn : n <= ops.size) : ∀ (m k : Nat) (l : List Oper) (s : Fs) (As : List Heap), n - k = m -> k <= n -> As.length = k -> l = ops.toList.drop k -> awH3 P c ops n K H0 rs k l s As ->
 ∃ T : Trace, T.sA k = s /\ (∀ j A, As[j]? = some A -> T.AA j = A) /\ TraceOk3 P c ops n H0 rs k T /\ wOps P c ops (ops.toList.drop n) K (T.sA n)
 | 0, k, l, s, As, hm, hk, hA, hl, h => by
   have : k = n := by omega
   subst this
   refine ⟨⟨fun _ => s, fun _ => 0, fun _ => .undef, fun j => (As[j]?).getD noH⟩, rfl, fun j A hj => by simp [hj], ⟨fun i hi hi' => by omega⟩, ?_⟩
   subst hl
   cases hd : ops.toList.drop k with
   | nil => rw [hd] at h; exact h
   | cons o rest => rw [hd] at h; simp only [awH3, Nat.lt_irrefl, if_false] at h; exact h
 | m + 1, k, l, s, As, hm, hk, hA, hl, h => by
   have hkn : k < n := by omega
   have hks : k < ops.toList.length := by simp; omega
   have hd : ops.toList.drop k = ops.toList[k] :: ops.toList.drop (k + 1) := List.drop_eq_getElem_cons hks
   rw [hl, hd] at h
   simp only [awH3, hkn, if_true] at h
   obtain ⟨d, v, A, Hn, kl, hq, hdep, hfr, hkl, hneed, h⟩ := h
   obtain ⟨T, h1, hAs, h2, h3⟩ := b8y hn m (k + 1) _ _ (As ++ [A]) (by omega) hkn (by simp [hA]) rfl h
   have hAk : T.AA k = A := hAs k A (by rw [List.getElem?_append_right (by omega)]; simp [hA])
   refine ⟨⟨fun i => if i = k then s else T.sA i, fun i => if i = k then d else T.dA i, fun i => if i = k then v else T.vA i, T.AA⟩, by simp, fun j B hj => hAs j B (by rw [List.getElem?_append_left (by rw [List.getElem?_eq_some_iff] at hj; exact hj.1)]; exact hj), ⟨fun i hi hi' => ?_⟩, ?_⟩
   . by_cases e : i = k
     . subst e
       refine ⟨ops.toList[i], Hn, kl, by rw [<- Array.getElem?_toList, gE_ hks], ?_, hdep, ?_, fun l hl => ?_, fun l ob hl => ?_, ?_⟩
       . simpa [hAk] using hq
       . simpa [hAk] using hfr
       . obtain ⟨g1, g0, g2, g3⟩ := hkl l hl
         refine ⟨by rw [hAk]; exact g1, g0, g2, fun j hj hne => ?_⟩
         have hjA : j < As.length := by omega
         rw [hAs j As[j] (by rw [List.getElem?_append_left hjA, gE_ hjA])] at hne
         exact g3 j _ (gE_ hjA) hne
       . rcases hneed l ob hl with g | ⟨g, g'⟩ | ⟨g0, j, Aj, g1, g2, g3⟩
         . exact .inl g
         . exact .inr (.inl ⟨g, by simpa using g'⟩)
         . have hji : j < i := by have := (List.getElem?_eq_some_iff.1 g1).1; omega
           exact .inr (.inr ⟨g0, j, hji, g2, by rw [hAs j Aj (by rw [List.getElem?_append_left (by omega)]; exact g1)]; exact g3⟩)
       . have : i + 1 ≠ i := by omega
         simp only [this, if_false, if_true, hAk]
         exact h1
     . have e2 : i + 1 ≠ k := by omega
       simp only [e, e2, if_false]
       exact h2.step i (by omega) hi'
   . have : n ≠ k := by omega
     simp only [this, if_false]
     exact h3
section
variable {P : Program} {X : Ctx} {c : Cfg} {ops : Array Oper} {n : Nat} {T : Trace}
theorem TraceOk3.gets {H0 : Heap} {rs : List Loc} (h : TraceOk3 P c ops n H0 rs 0 T) (hinj : ∀ i j, i < n -> j < n -> T.dA i = T.dA j -> i = j) : ∀ i, i <= n -> (∀ j, j < i -> (T.sA i).get (T.dA j) = T.vA j) /\ (∀ t, (∀ j, j < i -> T.dA j ≠ t) -> (T.sA i).get t = (T.sA 0).get t) /\
 (T.sA i).ix = (T.sA 0).ix /\ (T.sA i).vars.length = (T.sA 0).vars.length /\ (∀ j, j < i -> ∀ l ob, T.AA j l = some ob -> (∀ j', j < j' -> j' < i -> T.AA j' l = none) -> (T.sA i).H l = some ob) /\ (∀ l, (∀ j, j < i -> T.AA j l = none) -> (T.sA i).H l = (T.sA 0).H l) := by
 intro i
 induction i with
 | zero => exact fun _ => ⟨fun j hj => by omega, fun _ _ => rfl, rfl, rfl, fun j hj => by omega, fun _ _ => rfl⟩
 | succ i ih =>
   intro hi
   obtain ⟨h1, h2, h3, h4, h5, h6⟩ := ih (by omega)
   obtain ⟨o, Hn, kl, _, _, _, hfr, hkl, _, e⟩ := h.step i (Nat.zero_le _) (by omega)
   rw [e]
   refine ⟨fun j hj => ?_, fun t ht => ?_, by rw [c7g]; exact h3, by rw [b0d]; exact h4, fun j hj l ob hl hno => ?_, fun l hl => ?_⟩
   . rw [a7z]
     by_cases ej : j = i
     . subst ej; simp
     . rw [if_neg fun e' => ej (hinj j i (by omega) (by omega) e')]
       exact h1 j (by omega)
   . rw [a7z, if_neg fun e' => ht i (by omega) e'.symm]
     exact h2 t fun j hj => ht j (by omega)
   . rw [b3p]
     by_cases ej : j = i
     . subst ej; simp [ext, hl]
     . have hH := h5 j (by omega) l ob hl fun j' h1' h2' => hno j' h1' (by omega)
       simp only [ext, hno i (by omega) (by omega)]
       exact hH
   . rw [b3p]
     simp only [ext, hl i (by omega)]
     exact h6 l fun j hj => hl j (by omega)
theorem TraceOk3.touched {H0 : Heap} {rs : List Loc} (h : TraceOk3 P c ops n H0 rs 0 T) (hinj : ∀ i j, i < n -> j < n -> T.dA i = T.dA j -> i = j) {i j : Nat} (hi : i <= n) (hj : j < i) {l : Loc} (hl : T.AA j l ≠ none) : (T.sA i).H l ≠ none := by
 obtain ⟨_, _, _, _, h5, _⟩ := h.gets hinj i hi
 rcases a6l (fun j => T.AA j l ≠ none) i with h' | ⟨j', h1, h2, h3⟩
 . exact absurd hl (h' j hj)
 . obtain ⟨ob, hob⟩ := Option.ne_none_iff_exists'.1 h2
   rw [h5 j' h1 l ob hob fun j'' q1 q2 => by
    cases hx : T.AA j'' l with
    | none => rfl
    | some o => exact absurd (by rw [hx]; simp) (h3 j'' q1 q2)]
   simp
theorem TraceOk3.again {H0 : Heap} {rs : List Loc} (h : TraceOk3 P c ops n H0 rs 0 T) (hinj : ∀ i j, i < n -> j < n -> T.dA i = T.dA j -> i = j) {i j : Nat} (hi : i < n) (hj : j < i) {l : Loc} (hl : T.AA j l ≠ none) (hl' : T.AA i l ≠ none) {o : Oper} (ho : ops[i]? = some o) : a3v o j = true /\ l ∈ rs := by
 obtain ⟨o', Hn, kl, ho', _, _, hfr, hkl, _, _⟩ := h.step i (Nat.zero_le _) hi
 have e : o' = o := sI_ (ho'.symm.trans ho)
 subst e
 rcases hfr l hl' with hk | hno
 . obtain ⟨_, g0, _, g3⟩ := hkl l hk
   exact ⟨g3 j hj hl, g0⟩
 . exact absurd hno (h.touched hinj (Nat.le_of_lt hi) hj hl)
theorem TraceOk3.out0 {H0 : Heap} {rs : List Loc} (h : TraceOk3 P c ops n H0 rs 0 T) (hsub : HSub H0 (T.sA 0).H) (hinj : ∀ i j, i < n -> j < n -> T.dA i = T.dA j -> i = j) : ∀ (d i : Nat), i = d -> i < n -> ∀ l, T.AA i l ≠ none -> H0 l = none := by
 intro d
 induction d using Nat.strongRecOn with
 | _ d ih =>
   intro i hd hi l hl
   obtain ⟨_, _, _, _, _, h6⟩ := h.gets hinj i (Nat.le_of_lt hi)
   obtain ⟨o', Hn, kl, _, _, _, hfr, hkl, _, _⟩ := h.step i (Nat.zero_le _) hi
   rcases hfr l hl with hk | hno
   . exact (hkl l hk).2.2.1
   . by_cases hx : ∃ j, j < i /\ T.AA j l ≠ none
     . obtain ⟨j, hj, hjl⟩ := hx
       exact ih j (by omega) j rfl (by omega) l hjl
     . rw [h6 l fun j hj => by
        cases hq : T.AA j l with
        | none => rfl
        | some o => exact absurd ⟨j, hj, by rw [hq]; simp⟩ hx] at hno
       cases hx : H0 l with
       | none => rfl
       | some o' => have := hsub l o' hx; rw [hno] at this; cases this
theorem d6n {Q : Exit -> Act -> World -> Prop} {H0 : Heap} {rs : List Loc} (hT : TraceOk3 P c ops n H0 rs 0 T) (hsub : HSub H0 (T.sA 0).H) (hinj : ∀ i j, i < n -> j < n -> T.dA i = T.dA j -> i = j) (hn : n <= ops.size) (hsc : n = ops.size \/ (Region.sinkB .any ops n = true /\ Region.chainB .any ops n = true))
 (hseq : c3s ops n = true) (hback : e9l ops = true) (htail : ∀ a w, Rel X c (T.sA n) a w -> wpList P ops Q (ops.toList.drop n) a w) :
 ∀ (m : Nat) (listed : Array Bool) (s : Fs) (a : Act) (w : World), ((List.range n).filter fun i => !listed.getD i true).length = m -> HeadInv .any ops n listed -> Agree n T listed s -> Rel X c s a w ->
   wpAny P .any ops Q (m + (ops.size - n)) listed a w := by
 intro m
 induction m with
 | zero =>
   intro listed s a w hm inv hag hR
   have hall : ∀ i, i < n -> listed.getD i true = true := fun i hi => by
    have := eN_ hm
    rw [List.filter_eq_nil_iff] at this
    simpa using this i (List.mem_range.2 hi)
   have hlist : listed = (Array.range ops.size).map fun i => decide (i < n) := by
    apply Array.ext
    . simp [inv.size]
    . intro i h1 h2
      have hio : i < ops.size := by rw [<- inv.size]; exact h1
      simp only [Array.getElem_map, Array.getElem_range]
      by_cases hin : i < n
      . have := hall i hin
        simp [Array.getD, h1] at this
        simp [hin, this]
      . have := inv.tail i (by omega) hio
        simp [Array.getD, h1] at this
        simp [hin, this]
   have hR' : Rel X c (T.sA n) a w := by
    obtain ⟨g1, g2, g3, g4, g5, g6⟩ := hT.gets hinj n (nr_ _)
    have hf : ∀ j, j < n -> listed.getD j false = true := fun j hj => by
     have := hall j hj
     have hjl : j < listed.size := by rw [inv.size]; omega
     simp [Array.getD, hjl] at this ⊢; exact this
    refine hR.same (fun t => ?_) ?_ (g4.trans hag.vl.symm)
    . by_cases ht : ∃ j, j < n /\ T.dA j = t
      . obtain ⟨j, hj, rfl⟩ := ht
        rw [g1 j hj, hag.inS j hj (hf j hj)]
      . have ht' : ∀ j, j < n -> T.dA j ≠ t := fun j hj e => ht ⟨j, hj, e⟩
        rw [g2 t ht', hag.out t fun j hj _ => ht' j hj]
    . funext l
      have nn : ∀ j, ¬ T.AA j l ≠ none -> T.AA j l = none := fun j h => by
       cases hx : T.AA j l with
       | none => rfl
       | some o' => exact absurd (by rw [hx]; simp) h
      rcases a6l (fun j => T.AA j l ≠ none) n with hl | ⟨j, hj, hne, hlast⟩
      . rw [g6 l fun j hj => nn j (hl j hj), hag.hO l fun j hj _ => nn j (hl j hj)]
      . obtain ⟨ob, hob⟩ := Option.ne_none_iff_exists'.1 hne
        rw [g5 j hj l ob hob fun j' q1 q2 => nn j' (hlast j' q1 q2), hag.hA j hj (hf j hj) l ob hob fun j' q1 q2 _ => nn j' (hlast j' q1 q2)]
   have hdl : (ops.toList.drop n).length = ops.size - n := by simp
   have := wpAny_of_seq (P := P) (md := .any) (Q' := Q) (ops.toList.drop n) n listed a w (fun j => by simp [List.getElem?_drop]) (by rw [hdl, hlist]; exact hseq) (htail a w hR')
   rw [hdl] at this
   simpa using this
 | succ m ih =>
   intro listed s a w hm inv hag hR
   have hex : ∃ i, i < n /\ listed.getD i true = false := by
    cases hl : (List.range n).filter fun i => !listed.getD i true with
    | nil => rw [hl] at hm; simp at hm
    | cons x xs =>
      have : x ∈ (List.range n).filter fun i => !listed.getD i true := by rw [hl]; simp
      rw [List.mem_filter, List.mem_range] at this
      exact ⟨x, this.1, by simpa using this.2⟩
   rw [show m + 1 + (ops.size - n) = (m + (ops.size - n)) + 1 by omega]
   refine ⟨fun hnil => ?_, fun i hi => ?_⟩
   . exfalso
     have least : ∀ k i, i <= k -> i < n -> listed.getD i true = false -> False := by
      intro k
      induction k using Nat.strongRecOn with
      | _ k ihk =>
        intro i hik hin hun
        have hio : i < ops.size := by omega
        have hoi : ops[i]? = some ops[i] := Array.getElem?_eq_getElem hio
        have hnr : i ∉ Region.ready .any ops listed := by rw [hnil]; simp
        rw [mem_ready] at hnr
        have : ∃ e ∈ (ops[i]).after, Region.binds .any e = true /\ listed.getD e.on false = false := by
         by_cases hh : ∃ e ∈ (ops[i]).after, Region.binds .any e = true /\ listed.getD e.on false = false
         . exact hh
         . exfalso
           refine hnr ⟨hun, _, hoi, fun e he hb => ?_⟩
           by_cases h' : listed.getD e.on false = true
           . exact h'
           . exact absurd ⟨e, he, hb, by simpa using h'⟩ hh
        obtain ⟨e, he, hb, hl⟩ := this
        have hbk := List.all_eq_true.1 hback i (List.mem_range.2 hio)
        simp only [hoi] at hbk
        have hlt := (Array.all_eq_true'.1 hbk) e he
        simp only [hb, Bool.not_true, Bool.false_or, dE_] at hlt
        exact ihk e.on (by omega) e.on (nr_ _) (by omega) (getD_in (by rw [inv.size]; omega) hl)
     obtain ⟨i, hi, hun⟩ := hex
     exact least i i (nr_ _) hi hun
   . have hin : i < n := by
      rcases Nat.lt_or_ge i n with h | h
      . exact h
      . obtain ⟨j, hj, hun⟩ := hex
        rcases hsc with e | ⟨hs, hc⟩
        . obtain ⟨_, oi, hoi, _⟩ := mem_ready.1 hi
          have := (Array.getElem?_eq_some_iff.1 hoi).1
          omega
        . by_cases e : n = ops.size
          . obtain ⟨_, oi, hoi, _⟩ := mem_ready.1 hi
            have := (Array.getElem?_eq_some_iff.1 hoi).1
            omega
          . exact absurd hi (tail_waits hs hc (by omega) inv _ j rfl hj hun i h)
     obtain ⟨hun, oi, hoi, hall⟩ := mem_ready.1 hi
     obtain ⟨o, Hn, kl, ho, hq, hdep, hfr, hkl, hneed, hst⟩ := hT.step i (Nat.zero_le _) hin
     obtain rfl : o = oi := sI_ (ho.symm.trans hoi)
     obtain ⟨g1, g2, g3, g4, g5, g6⟩ := hT.gets hinj i (Nat.le_of_lt hin)
     have hdst : ∀ j, j < n -> T.dA j < c.N -> (ops[j]?).bind (·.dst) = some (T.dA j) := fun j hj hlt => by
      obtain ⟨o', _, _, ho', hq', _⟩ := hT.step j (Nat.zero_le _) hj
      rw [ho', Option.bind_some]
      rcases hq'.1 with h | h
      . exact h.1
      . omega
     have hunf : listed.getD i false = false := getD_both hun
     have hwait : ∀ j, a3v o j = true -> listed.getD j false = true := fun j hj => by
      obtain ⟨e, he, hb⟩ := Array.any_eq_true'.1 hj
      simp only [bA_, beq_iff_eq] at hb
      have := hall e he hb.1
      rw [hb.2] at this; exact this
     have hij : ∀ j, j < n -> listed.getD j false = true -> j ≠ i := fun j _ hl e => by rw [e] at hl; rw [hl] at hunf; cases hunf
     have hops : ∀ j, j < n -> ∃ o', ops[j]? = some o' := fun j hj => ⟨ops[j]'(by omega), Array.getElem?_eq_getElem _⟩
     have later : ∀ l j, T.AA i l ≠ none -> j < n -> listed.getD j false = true -> T.AA j l ≠ none -> j < i := fun l j h1 hj hlj h2 => by
      rcases Nat.lt_trichotomy j i with h | h | h
      . exact h
      . exact absurd h (hij j hj hlj)
      . exfalso
        obtain ⟨oj, hoj⟩ := hops j hj
        have hw := (hT.again hinj hj h h1 h2 hoj).1
        obtain ⟨e, he, hb⟩ := Array.any_eq_true'.1 hw
        simp only [bA_, beq_iff_eq] at hb
        have := inv.closed j oj hoj hlj e he hb.1
        rw [hb.2, hunf] at this; cases this
     have sameH : ∀ l, T.AA i l ≠ none -> (∀ j, j < i -> T.AA j l ≠ none -> listed.getD j false = true) -> s.H l = (T.sA i).H l := fun l h1 h2 => by
      have nn : ∀ j, ¬ T.AA j l ≠ none -> T.AA j l = none := fun j h => by
       cases hx : T.AA j l with
       | none => rfl
       | some o' => exact absurd (by rw [hx]; simp) h
      rcases a6l (fun j => T.AA j l ≠ none) i with hl | ⟨j, hj, hne, hlast⟩
      . rw [g6 l fun j hj => nn j (hl j hj)]
        refine hag.hO l fun j hj hlj => nn j fun hne => ?_
        exact hl j (later l j h1 hj hlj hne) hne
      . obtain ⟨ob, hob⟩ := Option.ne_none_iff_exists'.1 hne
        rw [g5 j hj l ob hob fun j' q1 q2 => nn j' (hlast j' q1 q2)]
        exact hag.hA j (by omega) (h2 j hj hne) l ob hob fun j' q1 q2 q3 => nn j' fun hne' => hlast j' q1 (later l j' h1 q2 q3 hne') hne'
     unfold wpOp
     simp only [ho]
     refine hq.2 X s a w _ Q (fun t ht => ?_) (hag.ix.trans g3.symm) (fun l ob hl => ?_) (fun l hl hnk => ?_) hR fun u w' hR' => ih _ ({ s with H := ext s.H (T.AA i) }.put (T.dA i) (T.vA i)) _ w' ?_ (inv.set hi hin) ?_ hR'
     . show s.get t = (T.sA i).get t
       by_cases hh : ∃ j, j < n /\ T.dA j = t
       . obtain ⟨j, hj, rfl⟩ := hh
         have h1 := List.all_eq_true.1 hdep _ ht
         rw [bA_, dE_] at h1
         have h2 := List.all_eq_true.1 h1.2 j (List.mem_range.2 hj)
         rw [hdst j hj h1.1] at h2
         simp only [beq_self_eq_true, Bool.not_true, Bool.false_or, bA_, dE_] at h2
         rw [hag.inS j hj (hwait j h2.2), g1 j h2.1]
       . have hh' : ∀ j, j < n -> T.dA j ≠ t := fun j hj e => hh ⟨j, hj, e⟩
         rw [hag.out t fun j hj _ => hh' j hj, g2 t fun j hj => hh' j (by omega)]
     . rcases hneed l ob hl with h0 | ⟨hk, h0⟩ | ⟨hrs, j, hji, hw, hA⟩
       . rw [hag.hO l fun j hj _ => ?_]
         . exact hsub l ob h0
         . cases hx : T.AA j l with
           | none => rfl
           | some o' => have := hT.out0 hsub hinj j j rfl hj l (by rw [hx]; simp); rw [h0] at this; cases this
       . obtain ⟨q1, q0, _, q3⟩ := hkl l hk
         exact (sameH l q1 fun j hj hne => hwait j (q3 j hj hne)).trans h0
       . refine hag.hA j (by omega) (hwait j hw) l ob hA fun j' h1' h2' _ => ?_
         cases hx : T.AA j' l with
         | none => rfl
         | some o' =>
           obtain ⟨oj', hoj'⟩ := hops j' h2'
           exact absurd (hT.again hinj h2' h1' (by rw [hA]; simp) (by rw [hx]; simp) hoj').2 hrs
     . have hno := (hfr l hl).resolve_left hnk
       exact (sameH l hl fun j hj hne => absurd hno (hT.touched hinj (Nat.le_of_lt hin) hj hne)).trans hno
     . have hperm : ((List.range n).filter fun j => !listed.getD j true).length = ((List.range n).filter fun j => !(listed.setIfInBounds i true).getD j true).length + 1 := by
        have key : ∀ (l : List Nat), l.Nodup -> i ∈ l -> (l.filter fun j => !listed.getD j true).length = (l.filter fun j => !(listed.setIfInBounds i true).getD j true).length + 1 := by
         intro l
         induction l with
         | nil => intro _ h; cases h
         | cons x l ihl =>
           intro hnd hmem
           rw [List.nodup_cons] at hnd
           rw [List.filter_cons, List.filter_cons]
           by_cases hx : x = i
           . subst hx
             have e1 : (listed.setIfInBounds x true).getD x true = true := by
              rcases Nat.lt_or_ge x listed.size with h | h <;> simp [Array.getD, h]
             simp only [hun, e1, Bool.not_false, Bool.not_true, if_true, List.length_cons]
             have : (l.filter fun j => !listed.getD j true) = l.filter fun j => !(listed.setIfInBounds x true).getD j true := by
              apply List.filter_congr
              intro j hj
              have hne : x ≠ j := fun e => hnd.1 (e ▸ hj)
              rw [getD_set_ne true hne]
             rw [this]
             simp
           . have hmem' : i ∈ l := by
              rcases List.mem_cons.1 hmem with h | h
              . exact absurd h.symm hx
              . exact h
             rw [getD_set_ne true (Ne.symm hx)]
             have := ihl hnd.2 hmem'
             split
             . simp only [List.length_cons]; omega
             . exact this
        exact key _ List.nodup_range (List.mem_range.2 hin)
       omega
     . have hii : (listed.setIfInBounds i true).getD i false = true := by
        have hil : i < listed.size := by rw [inv.size]; omega
        simp [Array.getD, hil]
       refine ⟨fun j hj hl => ?_, fun t ht => ?_, by rw [c7g]; exact hag.ix, by rw [b0d]; exact hag.vl, fun j hj hl l ob hA hno => ?_, fun l hA => ?_⟩
       . rw [a7z]
         by_cases ej : j = i
         . subst ej; simp
         . rw [if_neg fun e => ej (hinj j i hj hin e)]
           rw [getD_set_ne false (Ne.symm ej)] at hl
           exact hag.inS j hj hl
       . rw [a7z, if_neg fun e => ht i hin hii e.symm]
         exact hag.out t fun j hj hl => ht j hj (getD_set_true hl)
       . rw [b3p]
         by_cases ej : j = i
         . subst ej; simp [ext, hA]
         . rw [getD_set_ne false (Ne.symm ej)] at hl
           have hi0 : T.AA i l = none := by
            cases hx : T.AA i l with
            | none => rfl
            | some o' =>
              have h1 := later l j (by rw [hx]; simp) hj hl (by rw [hA]; simp)
              have := hno i h1 hin hii
              rw [hx] at this; cases this
           simp only [ext, hi0]
           exact hag.hA j hj hl l ob hA fun j' q1 q2 q3 => hno j' q1 q2 (getD_set_true q3)
       . rw [b3p]
         simp only [ext, hA i hin hii]
         exact hag.hO l fun j hj hl => hA j hj (getD_set_true hl)
theorem c6s {α β : Type} {f : α -> Option β} : ∀ {l : List α}, (l.filterMap f).Nodup -> ∀ (i j : Nat) (d : β) (x y : α), l[i]? = some x -> l[j]? = some y -> f x = some d -> f y = some d -> i = j
 | [], _, i, j, d, x, y, h, _, _, _ => by simp at h
 | a :: l, hn, i, j, d, x, y, hx, hy, fx, fy => by
   have hd : ∀ (k : Nat) (z : α), l[k]? = some z -> f z = some d -> f a = some d -> False := fun k z hz fz fa => by
    rw [List.filterMap_cons_some fa, List.nodup_cons] at hn
    exact hn.1 (List.mem_filterMap.2 ⟨z, List.mem_of_getElem? hz, fz⟩)
   have hn' : (l.filterMap f).Nodup := by
    cases fa : f a with
    | none => rwa [List.filterMap_cons_none fa] at hn
    | some b => rw [List.filterMap_cons_some fa, List.nodup_cons] at hn; exact hn.2
   cases i with
   | zero =>
     cases j with
     | zero => rfl
     | succ j =>
       simp at hx hy
       subst hx
       exact (hd j y hy fy fx).elim
   | succ i =>
     cases j with
     | zero =>
       simp at hx hy
       subst hy
       exact (hd i x hx fx fy).elim
     | succ j =>
       simp at hx hy
       rw [c6s hn' i j d x y hx hy fx fy]
theorem c9m {H0 : Heap} {rs : List Loc} (hT : TraceOk3 P c ops n H0 rs 0 T) (hn : n <= ops.size) (hnd : ((ops.toList.take n).filterMap (·.dst)).Nodup) : ∀ i j, i < n -> j < n -> T.dA i = T.dA j -> i = j := by
 intro i j hi hj e
 obtain ⟨o1, _, _, h1, ⟨q1, _⟩, _⟩ := hT.step i (Nat.zero_le _) hi
 obtain ⟨o2, _, _, h2, ⟨q2, _⟩, _⟩ := hT.step j (Nat.zero_le _) hj
 have g1 : (ops.toList.take n)[i]? = some o1 := by rw [List.getElem?_take_of_lt hi, Array.getElem?_toList]; exact h1
 have g2 : (ops.toList.take n)[j]? = some o2 := by rw [List.getElem?_take_of_lt hj, Array.getElem?_toList]; exact h2
 rcases q1 with q1 | q1 <;> rcases q2 with q2 | q2
 . exact c6s hnd i j (T.dA i) o1 o2 g1 g2 q1.1 (by rw [e]; exact q2.1)
 . omega
 . omega
 . omega
theorem d0q {K : Fs -> Prop} {Q : Exit -> Act -> World -> Prop} {id : Nat} {s : Fs} {a : Act} {w : World} (hK : ∀ s a w, Rel X c s a w -> K s -> Q .normal a w) (h : Rel X c s a w) (hm : P.follows .mixedOrders = true) {n : Nat} {H0 : Heap} {rs : List Loc} (hB : b7q ops n = true) (hsub : HSub H0 s.H) (hH : awH3 P c ops n K H0 rs 0 ops.toList s []) : (Code.region id ops true).wp P Q a w := by
 have hdrew : Rel X c s a { w with drawn := w.drawn + 1 } := by
  obtain ⟨hN, F, m, h1, h2, hR⟩ := h
  exact ⟨hN, F, m, h1, h2, hR.world (nr_ _) (fun _ _ => rfl) rfl rfl rfl⟩
 refine wp_region_any hm ?_
 simp only [b7q, bA_, Bool.or_eq_true, beq_iff_eq, dE_] at hB
 obtain ⟨hn, hsc, hsq, hbk, hnd⟩ := hB
 obtain ⟨T, hT0, _, hT, htail⟩ := b8y hn n 0 _ s [] (by omega) (Nat.zero_le _) rfl (by simp) hH
 have inv0 : HeadInv .any ops n (Array.replicate ops.size false) :=
  ⟨by simp, fun j oj _ hl => (by rw [getD_replicate_false] at hl; cases hl), fun t _ ht => getD_in (by simpa using ht) (getD_replicate_false _ _)⟩
 have hag : Agree n T (Array.replicate ops.size false) s := ⟨fun j _ hl => (by rw [getD_replicate_false] at hl; cases hl), fun t _ => by rw [hT0], by rw [hT0], by rw [hT0], fun j _ hl => (by rw [getD_replicate_false] at hl; cases hl), fun l _ => by rw [hT0]⟩
 have hcount : ((List.range n).filter fun i => !(Array.replicate ops.size false).getD i true).length = n := by
  rw [List.filter_eq_self.2, List.length_range]
  intro i hi
  rw [List.mem_range] at hi
  have hio : i < ops.size := by omega
  simp [Array.getD, hio]
 have := d6n (Q := Q) hT (by rw [hT0]; exact hsub) (c9m hT hn hnd) hn hsc hsq hbk (fun a w h' => b5g hK _ _ a w h' htail) n _ s a _ hcount inv0 hag hdrew
 rw [show n + (ops.size - n) = ops.size by omega] at this
 exact this
end
section
variable {P : Program} {c : Cfg} {Q : Exit -> Fs -> Prop} {s : Fs} {K : Fs -> Prop} {ops : Array Oper} {o : Oper} {rest : List Oper}
theorem f4x {id : Nat} (rs : List Loc) (n : Nat) (hm : P.follows .mixedOrders = true) (hB : b7q ops n = true)
 (h : ∀ K : Fs -> Prop, Kont Q K -> awH3 P c ops n (Fend c.keep ops K) (rmvs rs s.H) rs 0 ops.toList s []) : a2s P c (.region id ops true) Q s :=
 e4f (fun s' => Q .normal (s'.clean (a4b ops) c.keep)) (fun _ _ _ _ _ hr hq => d0q (K := fun s' => Q .normal (s'.clean (a4b ops) c.keep)) (fun s a w hR hK => hq s a w hK hR) hr hm hB (b4o rs s.H) (h _ fun _ h => h)) fun _ h => h
def HNx3 (P : Program) (c : Cfg) (ops : Array Oper) (n : Nat) (K : Fs -> Prop) (H0 : Heap) (rs : List Loc) (k : Nat) (o : Oper) (rest : List Oper) (s : Fs) (As : List Heap) (x : Option (List (Loc × FO) × FV)) : Prop := match x, o.dst with
 | some ([], v), some d => d < c.N /\ awH3 P c ops n K H0 rs (k + 1) rest (s.put d v) (As ++ [noH])
 | _, _ => False
theorem e7t {n k : Nat} {H0 : Heap} {rs : List Loc} {As : List Heap} {d : Nat} {v : FV} (hd : o.dst = some d) (hN : d < c.N) (h : awH3 P c ops n K H0 rs (k + 1) rest (s.put d v) (As ++ [noH])) : HNx3 P c ops n K H0 rs k o rest s As (some ([], v)) := by
 unfold HNx3; rw [hd]; exact ⟨hN, h⟩
theorem e9t {n k : Nat} {H0 : Heap} {rs : List Loc} {As : List Heap} (hk : k < n) (_ : o.dst.isSome = true) (hd : c8l c.N ops n k o = true) (hg : a2d ops o s = some true) (hc : a1r s o = none) (h : HNx3 P c ops n K H0 rs k o rest s As (wv P H0 (c.nm (o.dst.getD 0) s.ix) (rv s) o)) : awH3 P c ops n K H0 rs k (o :: rest) s As := by
 simp only [awH3, hk, if_true]
 unfold HNx3 at h
 split at h
 . rename_i v d hv hdst
   obtain ⟨h1, h2⟩ := h
   have hm : b7p P c o { s with H := H0 } = some (v, upds noH []) := by
    unfold b7p
    have e : wv P H0 (c.nm (o.dst.getD 0) s.ix) (rv { s with H := H0 }) o = some ([], v) := hv
    rw [show ({ s with H := H0 } : Fs).ix = s.ix from rfl]
    show (wv P H0 (c.nm (o.dst.getD 0) s.ix) (rv { s with H := H0 }) o).map _ = _
    rw [e]; rfl
   refine ⟨d, v, noH, H0, fun _ => False, (b3d (sn := { s with H := H0 }) hg hc hdst h1 hm).two.three k, hd, fun l hl => (hl rfl).elim, fun _ h => h.elim, fun l ob hl => .inl hl, ?_⟩
   rw [a1l]; exact h2
 . exact h.elim
theorem d0v {H H2 : Heap} {t : TypeId} {l : Loc} {sz i off : Nat} {x : FV} (h : H2 l = H l) : a7v P H2 t (.ptr l sz i off) x = a7v P H t (.ptr l sz i off) x := by
 unfold a7v
 cases szT P t with
 | none => rfl
 | some n =>
   cases n with
   | zero => rfl
   | succ n => simp only [h]
theorem Rel.dull {X : Ctx} {a : Act} {w : World} (h : Rel X c s a w) (d : Nat) : Rel X c (s.put d .undef) a w := by
 refine h.weaken ⟨by rw [b0d], fun t => ?_, fun l => .inl (by rw [b3p])⟩
 rw [a7z]
 split
 . exact .inl rfl
 . exact .inr rfl
theorem e9s {n k : Nat} {H0 : Heap} {rs : List Loc} {As : List Heap} (l : Loc) (ob ob' : FO) (t : TypeId) (ad x : Operand) (sz i off : Nat) (hk : k < n) (hd : c8l c.N ops n k o = true) (hg : a2d ops o s = some true) (hdst : o.dst = none) (ho : o.op = .store t ad x)
 (hrs : l ∈ rs) (h0 : H0 l = none) (hl : s.H l = some ob) (had : rv s ad = .ptr l sz i off) (hw : a7v P (upd noH l ob) t (.ptr l sz i off) (rv s x) = some ([(l, ob')], .undef))
 (hAs : ∀ (j : Nat) (Aj : Heap), As[j]? = some Aj -> Aj l ≠ none -> a3v o j = true) (h : awH3 P c ops n K H0 rs (k + 1) rest ({ s with H := upd s.H l ob' }.put (c.N + k) .undef) (As ++ [upd noH l ob'])) : awH3 P c ops n K H0 rs k (o :: rest) s As := by
 simp only [awH3, hk, if_true]
 have eA : ∀ H : Heap, ext H (upd noH l ob') = upd H l ob' := fun H => by
  funext q; unfold ext upd noH; by_cases e : q = l <;> simp [e]
 have dep : ∀ y : Operand, y ∈ o.op.operands.toList -> ∀ s2 : Fs, (∀ t ∈ deps ops o, s2.get t = s.get t) -> rv s2 y = rv s y := fun y hy s2 h1 => b9n h1 y hy
 refine ⟨c.N + k, .undef, upd noH l ob', upd H0 l ob, fun q => q = l, ⟨.inr ⟨hdst, rfl, rfl⟩, fun X s2 a w K' Q' h1 h2 h3 h4 hR hK => ?_⟩, hd, fun q hq => .inl ?_, fun q hq => ?_, fun q ob2 hq => ?_, ?_⟩
 . have hg2 : a2d ops o s2 = some true := (a5s h1).trans hg
   rw [if_pos (a5i hR hg2)]
   have hs2 : s2.H l = some ob := h3 l ob (by simp [upd])
   have e1 : rv s2 ad = .ptr l sz i off := (dep ad (by rw [ho]; simp [Op.operands]) s2 h1).trans had
   have e2 : rv s2 x = rv s x := dep x (by rw [ho]; simp [Op.operands]) s2 h1
   have hst : b1q P c o s2 = some { s2 with H := upd s2.H l ob' } := by
    have e3 : wv P s2.H (c.nm (o.dst.getD 0) s2.ix) (rv s2) o = some ([(l, ob')], .undef) := by
     unfold wv
     rw [ho]
     show a7v P s2.H t (rv s2 ad) (rv s2 x) = _
     rw [e1, e2, d0v (H := upd noH l ob) (by rw [hs2]; simp [upd]), hw]
    unfold b1q
    rw [e3]
    simp only [putD, hdst]; rfl
   refine .inl (b2v (b2r hst) hR fun v w' hR' => hK v w' ?_)
   rw [eA]
   exact hR'.dull _
 . by_cases e : q = l
   . exact e
   . exact absurd (by simp [upd, e, noH]) hq
 . subst hq
   exact ⟨by simp [upd], hrs, h0, hAs⟩
 . by_cases e : q = l
   . subst e
     simp only [upd, if_true] at hq
     obtain rfl := sI_ hq
     exact .inr (.inl ⟨rfl, hl⟩)
   . simp only [upd, if_neg e] at hq
     exact .inl hq
 . rw [eA]; exact h
theorem d7m {n k : Nat} {H0 : Heap} {rs : List Loc} {As : List Heap} {l : List Oper} (hk : ¬ k < n) (h : wOps P c ops l K s) : awH3 P c ops n K H0 rs k l s As := by
 cases l with
 | nil => exact h
 | cons o rest => simp only [awH3, hk, if_false]; exact h
end
end Go.FM
namespace Go.FM
open Go Go.ChangeShapes Go.WideShapes Go.RowKit Go.ChangeAt
theorem PC.law {P : Program} {G : List (Nat × List Value)} {f : FuncId} {args : List FV} (h : PC P G f args (.bool true)) {w : World} {vs : List Value} (hG : a6s G (fun b => b < w.heap.size) w)
 (hv : RFs w (fun b => b < w.heap.size) (fun _ => False) (fun _ => (0, 0)) args vs) : Calls P f vs.toArray w fun e w' => e = .returned (.bool true) /\ Below w.heap.size w w' := by
 refine (h w _ (fun _ => (0, 0)) vs (fun _ h => h) hG (hv.keep (fun _ h => h) (fun _ _ => rfl) (fun _ h => h.elim) (fun _ _ => rfl)) (a9y _ _ _)).mono ?_
 rintro e w' ⟨v, F', m', rfl, h1, h2, h3, h4, h5, h6, h7, h8, h9, h10, h11⟩
 refine ⟨?_, h9, h10, h11, h7, fun y hy => h8 y hy fun l ⟨_, h, _⟩ => by cases h⟩
 generalize hb : FV.bool true = b at h4
 cases h4 <;> cases hb
 rfl
theorem e0t {P : Program} {W : World} {name : String} {k : IntKind} {zs : List Int} {g : Nat} (h : Lib.TabIs P W name k zs) (hg : P.globalNamed name = some g) (hz : 0 < zs.length) : a6s [(g, zs.map fun z => Value.int k z)] (fun b => b < W.heap.size) W := by
 have hc : ∀ j v, (zs.map fun z => Value.int k z)[j]? = some v -> W.cell? ⟨g, j, none⟩ = some v := fun j v hv => by
  have := World.var?_cell hg h j
  rw [this]
  simpa using hv
 have hlt : g < W.heap.size := by
  have h0 := hc 0 (.int k zs[0]) (by simp [gE_ hz])
  rcases Nat.lt_or_ge g W.heap.size with h' | h'
  . exact h'
  . exfalso
    have : W.heap[g]? = none := by simp [h']
    simp [World.cell?, this] at h0
 intro p hp
 simp only [List.mem_singleton] at hp
 subst hp
 exact ⟨hlt, hlt, hc⟩
mutual
def bulk {H : Type} : DataW H -> Nat
 | .lit (.string bytes) => bytes.length + 1
 | .lit _ => 1
 | .nil => 1
 | .ptr d => bulk d + 1
 | .slice elems spare => a7r elems + a7r spare + 1
 | .agg parts => a7r parts + 1
 | .iface _ d => bulk d + 1
 | .map entries => a7q entries + 1
 | .held _ => 1
def a7r {H : Type} : List (DataW H) -> Nat
 | [] => 0
 | d :: r => bulk d + a7r r
def a7q {H : Type} : List (Lit × DataW H) -> Nat
 | [] => 0
 | x :: r => a7p x + a7q r
def a7p {H : Type} : Lit × DataW H -> Nat
 | (.string bytes, d) => bytes.length + bulk d + 1
 | (_, d) => bulk d + 1
end
theorem c0z {H : Type} : ∀ {l : List (DataW H)} {d : DataW H}, d ∈ l -> bulk d <= a7r l
 | [], d, h => by cases h
 | x :: r, d, h => by
   simp only [a7r]
   rcases List.mem_cons.1 h with rfl | h
   . omega
   . have := c0z h; omega
theorem e2c {H : Type} (d : DataW H) : 0 < bulk d := by
 cases d with
 | lit l => cases l <;> simp [bulk]
 | _ => simp [bulk]
theorem c8s {H : Type} : ∀ l : List (DataW H), l.length <= a7r l
 | [] => nr_ _
 | x :: r => by
   have := c8s r
   have := e2c x
   simp only [a7r, List.length_cons]; omega
def Rd (P : Program) (t : TypeId) {α : Type} (sz : Nat) (f : α -> List FV) (p : Nat -> α -> Prop) : Prop :=
 P.cellsOf t = sz /\ (∀ x, (f x).length = sz) /\ ∀ (H : Type) (enc : TypeId × Value -> H) (w : World) (spare : Nat -> Bool) (held : Bool) (fuel : Nat) (cs : List Value) (y : DataW H × List MemPlace),
  DataW.trod enc P w 0 spare held fuel t cs = some y -> ∀ N, bulk y.1 <= N -> ∃ x, p N x /\ RFs w (fun b => b < w.heap.size) (fun _ => False) (fun _ => (0, 0)) (f x) cs
def RdF (P : Program) (fs : List Field) (off : Nat) {α : Type} (sz : Nat) (f : α -> List FV) (p : Nat -> α -> Prop) : Prop :=
 (∀ x, (f x).length = sz) /\ ∀ (H : Type) (enc : TypeId × Value -> H) (w : World) (spare : Nat -> Bool) (held : Bool) (fuel : Nat) (cs : List Value) (N : Nat),
  (∀ (i : Nat) (f : Field), fs[i]? = some f -> ∃ y, DataW.trod enc P w 0 spare held fuel f.type ((cs.drop f.offset).take (P.cellsOf f.type)) = some y /\ bulk y.1 <= N) -> cs.length = off + sz -> ∃ x, p N x /\ RFs w (fun b => b < w.heap.size) (fun _ => False) (fun _ => (0, 0)) (f x) (cs.drop off)
section
variable {P : Program} {t e : TypeId}
theorem f1l {k : IntKind} (ht : P.underlying t = some (.int k)) (hc : P.cellsOf t = 1) : Rd P t 1 (fun n : Int => [.int k n]) (fun _ n => k.min <= n /\ n <= k.max) := by
 refine ⟨hc, fun _ => rfl, fun H enc w spare held fuel cs y h N _ => ?_⟩
 obtain ⟨n, rfl, _, hw⟩ := DataW.trod_int ht h
 exact ⟨n, by simpa [Lit.wf] using hw, .cons _ _ _ _ (.int k n) .nil⟩
theorem f1k (ht : P.underlying t = some .string) (hc : P.cellsOf t = 1) : Rd P t 1 (fun s : ByteArray => [.str s]) (fun N s => s.size <= maxLen /\ s.size <= N) := by
 refine ⟨hc, fun _ => rfl, fun H enc w spare held fuel cs y h N hN => ?_⟩
 obtain ⟨s, rfl, rfl, hs⟩ := DataW.trod_string ht h
 simp only [bulk, Array.length_toList] at hN
 exact ⟨s, ⟨hs, by have e : s.data.size = s.size := rfl; omega⟩, .cons _ _ _ _ (.str s) .nil⟩
theorem b9r {off : Nat} : RdF P [] off 0 (fun _ : Unit => []) (fun _ _ => True) := by
 refine ⟨fun _ => rfl, fun H enc w spare held fuel cs N h hl => ⟨(), trivial, ?_⟩⟩
 rw [List.drop_eq_nil_of_le (by omega)]
 exact .nil
theorem a4o {fl : Field} {fs : List Field} {off sz1 sz2 : Nat} {α β : Type} {f : α -> List FV} {p : Nat -> α -> Prop} {g : β -> List FV} {q : Nat -> β -> Prop} (ho : fl.offset = off) (h1 : Rd P fl.type sz1 f p) (h2 : RdF P fs (off + sz1) sz2 g q) :
 RdF P (fl :: fs) off (sz1 + sz2) (fun x : α × β => f x.1 ++ g x.2) (fun N x => p N x.1 /\ q N x.2) := by
 refine ⟨fun x => by simp [h1.2.1, h2.1], fun H enc w spare held fuel cs N h hl => ?_⟩
 obtain ⟨y, hy, hN⟩ := h 0 fl rfl
 obtain ⟨a, ha, hra⟩ := h1.2.2 H enc w spare held fuel _ y hy N hN
 obtain ⟨b, hb, hrb⟩ := h2.2 H enc w spare held fuel cs N (fun i f' hf => h (i + 1) f' (by simpa using hf)) (by omega)
 refine ⟨(a, b), ⟨ha, hb⟩, ?_⟩
 rw [ho, h1.1] at hra
 have : cs.drop off = (cs.drop off).take sz1 ++ cs.drop (off + sz1) := by
  rw [<- List.drop_drop]; exact (List.take_append_drop sz1 _).symm
 rw [this]
 exact hra.append hrb
theorem b2c {fs : Array Field} {α β : Type} {sz : Nat} {f : α -> List FV} {p : Nat -> α -> Prop} (ht : P.underlying t = some (.struct fs)) (hc : P.cellsOf t = sz) (h : RdF P fs.toList 0 sz f p) (g : α -> β) {f' : β -> List FV} {p' : Nat -> β -> Prop} (hf : ∀ x, f' (g x) = f x) (hp : ∀ N x, p N x -> p' N (g x)) (hl : ∀ y, (f' y).length = sz) : Rd P t sz f' p' := by
 refine ⟨hc, hl, fun H enc w spare held fuel cs y hy N hN => ?_⟩
 obtain ⟨xs, n, rfl, rfl, h1, h2, h3⟩ := DataW.trod_struct ht hy
 simp only [bulk] at hN
 obtain ⟨x, hx, hr⟩ := h.2 H enc w spare held n cs N (fun i fl hfl => by
  have hi : i < xs.length := by
   rw [h2]
   have := (List.getElem?_eq_some_iff.1 hfl).1
   simpa using this
  refine ⟨xs[i], by rw [h3 i fl (by simpa using hfl), gE_ hi], ?_⟩
  have := c0z (l := xs.map (·.1)) (d := xs[i].1) (List.mem_map.2 ⟨_, gm_ hi, rfl⟩)
  omega) (by omega)
 exact ⟨g x, hp N x hx, by rw [hf]; simpa using hr⟩
theorem e2z {w : World} {α : Type} {f : α -> List FV} {p : α -> Prop} {g : Nat -> List Value} : ∀ n, (∀ i, i < n -> ∃ x, p x /\ RFs w (fun b => b < w.heap.size) (fun _ => False) (fun _ => (0, 0)) (f x) (g i)) ->
 ∃ xs : List α, xs.length = n /\ (∀ x ∈ xs, p x) /\ RFs w (fun b => b < w.heap.size) (fun _ => False) (fun _ => (0, 0)) (xs.map f).flatten ((List.range n).map g).flatten
 | 0, _ => ⟨[], rfl, fun _ h => (by cases h), .nil⟩
 | n + 1, h => by
   obtain ⟨xs, h1, h2, h3⟩ := e2z n fun i hi => h i (by omega)
   obtain ⟨x, hx, hr⟩ := h n (by omega)
   refine ⟨xs ++ [x], by simp [h1], fun y hy => ?_, ?_⟩
   . rcases List.mem_append.1 hy with hy | hy
     . exact h2 y hy
     . rw [List.mem_singleton.1 hy]; exact hx
   . rw [List.range_succ]
     simpa using h3.append hr
theorem d5t {sz : Nat} (h0 : 0 < sz) {g : Nat -> List Value} (hg : ∀ i, (g i).length = sz) : ∀ n j v, (((List.range n).map g).flatten)[j]? = some v -> j / sz < n /\ (g (j / sz))[j % sz]? = some v
 | 0, j, v, h => by simp at h
 | n + 1, j, v, h => by
   rw [List.range_succ, List.map_append, List.flatten_append] at h
   have hl : (((List.range n).map g).flatten).length = n * sz := by
    clear h
    induction n with
    | zero => simp
    | succ n ih => rw [List.range_succ, List.map_append, List.flatten_append, List.length_append, ih]; simp [hg, Nat.succ_mul]
   rcases Nat.lt_or_ge j (n * sz) with hj | hj
   . rw [List.getElem?_append_left (by omega)] at h
     obtain ⟨a, b⟩ := d5t h0 hg n j v h
     exact ⟨by omega, b⟩
   . rw [List.getElem?_append_right (by omega), hl] at h
     have h' : (g n)[j - n * sz]? = some v := by simpa using h
     have hlt := (List.getElem?_eq_some_iff.1 h').1
     rw [hg] at hlt
     have e : j = (j - n * sz) + n * sz := by omega
     have e1 : j / sz = n := by rw [e, Nat.add_mul_div_right _ _ h0, Nat.div_eq_of_lt hlt]; omega
     have e2 : j % sz = j - n * sz := by
      rw [show j % sz = ((j - n * sz) + n * sz) % sz by rw [<- e], Nat.add_mul_mod_self_right, Nat.mod_eq_of_lt hlt]
     exact ⟨by omega, by rw [e1, e2]; exact h'⟩
theorem b3l {w : World} {a : Addr} {n : Nat} {cs : List Value} (h : w.cells? 0 a n = some cs) : cs.length = n /\ ∀ j v, cs[j]? = some v -> w.cell? (a.add j) = some v := by
 unfold World.cells? at h
 split at h
 . have hl := Lib.mapM_length h
   refine ⟨by simpa using hl, fun j v hv => ?_⟩
   have hj : j < n := by
    have := (List.getElem?_eq_some_iff.1 hv).1
    rw [hl] at this; simpa using this
   obtain ⟨b, hb, hf⟩ := Lib.mapM_at h j j (by simp [hj])
   rw [hv] at hb
   obtain rfl := sI_ hb
   exact hf
 . cases h
theorem b2d {α : Type} {sz : Nat} {f : α -> List FV} {p : Nat -> α -> Prop} (ht : P.underlying t = some (.slice e)) (hc : P.cellsOf t = 1) (h0 : 0 < sz) (h : Rd P e sz f p) : Rd P t 1 (fun xs : List α => [.list sz (xs.map f)]) (fun N xs => xs.length <= N /\ ∀ x ∈ xs, p N x) := by
 obtain ⟨hce, hlen, hrd⟩ := h
 refine ⟨hc, fun _ => rfl, fun H enc w spare held fuel cs y hy N hN => ?_⟩
 rcases DataW.trod_slice ht hy with ⟨rfl, _⟩ | ⟨a, len, cap, elems, rest, n, rfl, rfl, rfl, hb, hl, hm, hel, hat, _, _⟩
 . exact ⟨[], ⟨Nat.zero_le _, fun _ h => (by cases h)⟩, .cons _ _ _ _ (.list sz [] none 0 [] (by simp) (by simp) (by simp) .nil) .nil⟩
 . simp only [bulk] at hN
   have hmem : ∀ i (hi : i < len), bulk (elems[i]'(by omega)).1 <= N := fun i hi => by
    have := c0z (l := elems.map (·.1)) (d := (elems[i]'(by omega)).1) (List.mem_map.2 ⟨_, gm_ _, rfl⟩)
    omega
   have hlN : len <= N := by
    have := c8s (elems.map (·.1))
    simp only [List.length_map] at this
    omega
   have each : ∀ i, i < len -> ∃ c, w.cells? 0 (a.add (i * sz)) sz = some c /\ ∃ x, p N x /\ RFs w (fun b => b < w.heap.size) (fun _ => False) (fun _ => (0, 0)) (f x) c := fun i hi => by
    have := hat i hi
    rw [gE_ (by omega), Option.bind_eq_some_iff, hce] at this
    obtain ⟨c, h1, h2⟩ := this
    obtain ⟨x, hx, hr⟩ := hrd H enc w spare held n c _ h2 N (hmem i hi)
    exact ⟨c, h1, x, hx, hr⟩
   let g : Nat -> List Value := fun i => if hi : i < len then (each i hi).choose else List.replicate sz default
   have hg : ∀ i (hi : i < len), g i = (each i hi).choose := fun i hi => by simp [g, hi]
   have hgl : ∀ i, (g i).length = sz := fun i => by
    by_cases hi : i < len
    . rw [hg i hi]; exact (b3l (each i hi).choose_spec.1).1
    . simp [g, hi]
   obtain ⟨xs, k1, k2, k3⟩ := e2z (p := p N) (f := f) (w := w) (g := g) len fun i hi => by
    rw [hg i hi]; exact (each i hi).choose_spec.2
   have hcell : ∀ (j : Nat) (v : Value), (((List.range len).map g).flatten)[j]? = some v -> w.cell? (a.add j) = some v := fun j v hv => by
    obtain ⟨d1, d2⟩ := d5t h0 hgl len j v hv
    rw [hg _ d1] at d2
    have := (b3l (each _ d1).choose_spec.1).2 _ _ d2
    rw [b7g] at this
    rwa [show j / sz * sz + j % sz = j by rw [Nat.mul_comm]; exact Nat.div_add_mod j sz] at this
   refine ⟨xs, ⟨by omega, k2⟩, .cons _ _ _ _ ?_ .nil⟩
   have := RF.list (w := w) (F := fun b => b < w.heap.size) (U := fun _ => False) (m := fun _ => (0, 0)) sz (xs.map f) (some a) cap ((List.range len).map g).flatten (fun x hx => by
    obtain ⟨z, _, rfl⟩ := List.mem_map.1 hx; exact hlen z) (by simp; omega) (fun hne => ⟨a, rfl, ?_, hcell⟩) k3
   . rw [List.length_map, k1] at this; exact this
   . have hl0 : 0 < len := by
      rcases Nat.eq_zero_or_pos len with h | h
      . rw [h] at k1
        rw [eN_ k1] at hne
        exact absurd rfl hne
      . exact h
     obtain ⟨v0, hv0⟩ : ∃ v, (g 0)[0]? = some v := ⟨(g 0)[0]'(by rw [hgl]; exact h0), gE_ _⟩
     rw [hg 0 hl0] at hv0
     have := (b3l (each 0 hl0).choose_spec.1).2 0 _ hv0
     rcases Nat.lt_or_ge a.block w.heap.size with h' | h'
     . exact h'
     . exfalso
       have e : w.heap[a.block]? = none := by simp [h']
       simp [World.cell?, a7s, e] at this
theorem Rd.slice {α : Type} {f : α -> List FV} {p : Nat -> α -> Prop} (h : Rd P t 1 f p) {H : Type} {enc : TypeId × Value -> H} {w : World} {spare : Nat -> Bool} {held : Bool} {a : Option Addr} {l c : Nat} {d : DataW H} {ps : List MemPlace} (ht : DataW.Trod enc P w 0 spare held t (.slice a l c) d ps) :
 ∃ x, p (bulk d) x /\ RFs w (fun b => b < w.heap.size) (fun _ => False) (fun _ => (0, 0)) (f x) [.slice a l c] := by
 obtain ⟨n, hn⟩ := ht
 exact h.2.2 H enc w spare held n _ _ (by simpa [Value.cells] using hn) _ (nr_ _)
theorem Rd.struct {α : Type} {sz : Nat} {f : α -> List FV} {p : Nat -> α -> Prop} (h : Rd P t sz f p) {H : Type} {enc : TypeId × Value -> H} {w : World} {spare : Nat -> Bool} {held : Bool} {cs : Array Value} {d : DataW H} {ps : List MemPlace} (ht : DataW.Trod enc P w 0 spare held t (.agg cs) d ps) :
 ∃ x, p (bulk d) x /\ RFs w (fun b => b < w.heap.size) (fun _ => False) (fun _ => (0, 0)) [.agg (f x)] [.agg cs] := by
 obtain ⟨n, hn⟩ := ht
 obtain ⟨x, hx, hr⟩ := h.2.2 H enc w spare held n _ _ (by simpa [Value.cells] using hn) _ (nr_ _)
 exact ⟨x, hx, .cons _ _ _ _ (by simpa using RF.agg (f x) cs.toList hr) .nil⟩
end
end Go.FM
