/- Part. -/
import Derived.Test.YtfhhgjbcenhdeaaGreatDoorS5
import Derived.ProofKit
import Derived.OpenShut
import Derived.ShutString
import Derived.ChangeOld
import Derived.Below
import Derived.LaidMore
import Derived.Stop.Joined
import Derived.Lib.LaidTab
set_option linter.all false
set_option maxRecDepth 100000
set_option maxHeartbeats 0
namespace Go.FM
open Go Go.ChangeShapes Go.WideShapes Go.RowKit Go.ChangeAt
variable {H α : Type} {sz : Nat} {w : World} {f : α -> List FV} {p : Nat -> α -> Prop}
theorem PC.law {P : Program} {G : List (Nat × List Value)} {f : FuncId} {args : List FV} (h : PC P G f args (.bool true)) {vs : List Value} (hG : a5g G (fun b => b < w.heap.size) w)
 (hv : RFs w (fun b => b < w.heap.size) (fun _ => False) (fun _ => (0, 0)) args vs) : Calls P f vs.toArray w fun e w' => e = .returned (.bool true) /\ Below w.heap.size w w' := by
 refine (h w _ (fun _ => (0, 0)) vs (fun _ h => h) hG (hv.keep (fun _ h => h) (fun _ _ => rfl) (fun _ h => h.elim) (fun _ _ => rfl)) (a6f _ _ _)).mono ?_
 rintro e w' ⟨v, F', m', rfl, h1, h2, h3, h4, h5, h6, h7, h8, h9, h10, h11⟩
 refine ⟨?_, h9, h10, h11, h7, fun y hy => h8 y hy fun l ⟨_, h, _⟩ => by cases h⟩
 generalize hb : FV.bool true = b at h4
 cases h4 <;> cases hb
 rfl
theorem e6h {P : Program} {W : World} {name : String} {k : IntKind} {zs : List Int} {g : Nat} (h : Lib.TabIs P W name k zs) (hg : P.globalNamed name = some g) (hz : 0 < zs.length) : a5g [(g, zs.map fun z => Value.int k z)] (fun b => b < W.heap.size) W := by
 have hc : ∀ j v, (zs.map fun z => Value.int k z)[j]? = some v -> W.cell? ⟨g, j, none⟩ = some v := fun j v hv => by
  have := World.var?_cell hg h j
  rw [this]
  simpa using hv
 have hlt : g < W.heap.size := by
  have h0 := hc 0 (.int k zs[0]) (by simp [A5n hz])
  rcases A0r g W.heap.size with h' | h'
  . exact h'
  . exfalso
    have : W.heap[g]? = none := by simp [h']
    simp [World.cell?, this] at h0
 intro p hp
 simp only [A0d] at hp
 subst hp
 exact ⟨hlt, hlt, hc⟩
mutual
def bulk {H : Type} : DataW H -> Nat
 | .lit (.string bytes) => bytes.length + 1
 | .lit _ => 1
 | .nil => 1
 | .ptr d => bulk d + 1
 | .slice elems spare => a6n elems + a6n spare + 1
 | .agg parts => a6n parts + 1
 | .iface _ d => bulk d + 1
 | .map entries => a6m entries + 1
 | .held _ => 1
def a6n {H : Type} : List (DataW H) -> Nat
 | [] => 0
 | d :: r => bulk d + a6n r
def a6m {H : Type} : List (Lit × DataW H) -> Nat
 | [] => 0
 | x :: r => a6l x + a6m r
def a6l {H : Type} : Lit × DataW H -> Nat
 | (.string bytes, d) => bytes.length + bulk d + 1
 | (_, d) => bulk d + 1
end
theorem c2d {H : Type} : ∀ {l : List (DataW H)} {d : DataW H}, d ∈ l -> bulk d <= a6n l
 | [], d, h => by cases h
 | x :: r, d, h => by
   simp only [a6n]
   rcases A0m.1 h with rfl | h
   . omega
   . have := c2d h; omega
theorem e8a (d : DataW H) : 0 < bulk d := by
 cases d with
 | lit l => cases l <;> simp [bulk]
 | _ => simp [bulk]
theorem d1h {H : Type} : ∀ l : List (DataW H), l.length <= a6n l
 | [] => A5s _
 | x :: r => by
   have := d1h r
   have := e8a x
   simp only [a6n, A1a]; omega
def Rd (P : Program) (t : TypeId) {α : Type} (sz : Nat) (f : α -> List FV) (p : Nat -> α -> Prop) : Prop :=
 P.cellsOf t = sz /\ (∀ x, (f x).length = sz) /\ ∀ (H : Type) (enc : TypeId × Value -> H) (w : World) (spare : Nat -> Bool) (held : Bool) (fuel : Nat) (cs : List Value) (y : DataW H × List MemPlace),
  DataW.trod enc P w 0 spare held fuel t cs = some y -> ∀ N, bulk y.1 <= N -> ∃ x, p N x /\ RFs w (fun b => b < w.heap.size) (fun _ => False) (fun _ => (0, 0)) (f x) cs
def RdF (P : Program) (fs : List Field) (off : Nat) {α : Type} (sz : Nat) (f : α -> List FV) (p : Nat -> α -> Prop) : Prop :=
 (∀ x, (f x).length = sz) /\ ∀ (H : Type) (enc : TypeId × Value -> H) (w : World) (spare : Nat -> Bool) (held : Bool) (fuel : Nat) (cs : List Value) (N : Nat),
  (∀ (i : Nat) (f : Field), fs[i]? = some f -> ∃ y, DataW.trod enc P w 0 spare held fuel f.type ((cs.drop f.offset).take (P.cellsOf f.type)) = some y /\ bulk y.1 <= N) -> cs.length = off + sz -> ∃ x, p N x /\ RFs w (fun b => b < w.heap.size) (fun _ => False) (fun _ => (0, 0)) (f x) (cs.drop off)
section
variable {P : Program} {t e : TypeId}
theorem g0o {k : IntKind} (ht : P.underlying t = some (.int k)) (hc : P.cellsOf t = 1) : Rd P t 1 (fun n : Int => [.int k n]) (fun _ n => k.min <= n /\ n <= k.max) := by
 refine ⟨hc, fun _ => rfl, fun H enc w spare held fuel cs y h N _ => ?_⟩
 obtain ⟨n, rfl, _, hw⟩ := DataW.trod_int ht h
 exact ⟨n, by simpa [Lit.wf] using hw, .cons _ _ _ _ (.int k n) .nil⟩
theorem g0n (ht : P.underlying t = some .string) (hc : P.cellsOf t = 1) : Rd P t 1 (fun s : ByteArray => [.str s]) (fun N s => s.size <= maxLen /\ s.size <= N) := by
 refine ⟨hc, fun _ => rfl, fun H enc w spare held fuel cs y h N hN => ?_⟩
 obtain ⟨s, rfl, rfl, hs⟩ := DataW.trod_string ht h
 simp only [bulk, A3l] at hN
 exact ⟨s, ⟨hs, by have e : s.data.size = s.size := rfl; omega⟩, .cons _ _ _ _ (.str s) .nil⟩
theorem c0n {off : Nat} : RdF P [] off 0 (fun _ : Unit => []) (fun _ _ => True) := by
 refine ⟨fun _ => rfl, fun H enc w spare held fuel cs N h hl => ⟨(), trivial, ?_⟩⟩
 rw [List.drop_eq_nil_of_le ya]
 exact .nil
theorem a3c {fl : Field} {fs : List Field} {off sz1 sz2 : Nat} {β : Type} {g : β -> List FV} {q : Nat -> β -> Prop} (ho : fl.offset = off) (h1 : Rd P fl.type sz1 f p) (h2 : RdF P fs (off + sz1) sz2 g q) :
 RdF P (fl :: fs) off (sz1 + sz2) (fun x : α × β => f x.1 ++ g x.2) (fun N x => p N x.1 /\ q N x.2) := by
 refine ⟨fun x => by simp [h1.2.1, h2.1], fun H enc w spare held fuel cs N h hl => ?_⟩
 obtain ⟨y, hy, hN⟩ := h 0 fl rfl
 obtain ⟨a, ha, hra⟩ := h1.2.2 H enc w spare held fuel _ y hy N hN
 obtain ⟨b, hb, hrb⟩ := h2.2 H enc w spare held fuel cs N (fun i f' hf => h (i + 1) f' (by simpa using hf)) ya
 refine ⟨(a, b), ⟨ha, hb⟩, ?_⟩
 rw [ho, h1.1] at hra
 have : cs.drop off = (cs.drop off).take sz1 ++ cs.drop (off + sz1) := by
  rw [<- A5i]; exact (A2z sz1 _).symm
 rw [this]
 exact hra.append hrb
theorem b2f {fs : Array Field} {β : Type} (ht : P.underlying t = some (.struct fs)) (hc : P.cellsOf t = sz) (h : RdF P fs.toList 0 sz f p) (g : α -> β) {f' : β -> List FV} {p' : Nat -> β -> Prop} (hf : ∀ x, f' (g x) = f x) (hp : ∀ N x, p N x -> p' N (g x)) (hl : ∀ y, (f' y).length = sz) : Rd P t sz f' p' := by
 refine ⟨hc, hl, fun H enc w spare held fuel cs y hy N hN => ?_⟩
 obtain ⟨xs, n, rfl, rfl, h1, h2, h3⟩ := DataW.trod_struct ht hy
 simp only [bulk] at hN
 obtain ⟨x, hx, hr⟩ := h.2 H enc w spare held n cs N (fun i fl hfl => by
  have hi : i < xs.length := by
   rw [h2]
   have := (A0q.1 hfl).1
   simpa using this
  refine ⟨xs[i], by rw [h3 i fl (by simpa using hfl), A5n hi], ?_⟩
  have := c2d (l := xs.map (·.1)) (d := xs[i].1) (A1t.2 ⟨_, A5p hi, rfl⟩)
  omega) ya
 exact ⟨g x, hp N x hx, by rw [hf]; simpa using hr⟩
theorem e9l {w : World} {α : Type} {f : α -> List FV} {p : α -> Prop} {g : Nat -> List Value} : ∀ n, (∀ i, i < n -> ∃ x, p x /\ RFs w (fun b => b < w.heap.size) (fun _ => False) (fun _ => (0, 0)) (f x) (g i)) ->
 ∃ xs : List α, xs.length = n /\ (∀ x ∈ xs, p x) /\ RFs w (fun b => b < w.heap.size) (fun _ => False) (fun _ => (0, 0)) (xs.map f).flatten ((List.range n).map g).flatten
 | 0, _ => ⟨[], rfl, fun _ h => zr, .nil⟩
 | n + 1, h => by
   obtain ⟨xs, h1, h2, h3⟩ := e9l n fun i hi => h i ya
   obtain ⟨x, hx, hr⟩ := h n ya
   refine ⟨xs ++ [x], by simp [h1], fun y hy => ?_, ?_⟩
   . rcases A0o.1 hy with hy | hy
     . exact h2 y hy
     . rw [A0d.1 hy]; exact hx
   . rw [A1p]
     simpa using h3.append hr
theorem d9x {sz : Nat} (h0 : 0 < sz) {g : Nat -> List Value} (hg : ∀ i, (g i).length = sz) : ∀ n j v, (((List.range n).map g).flatten)[j]? = some v -> j / sz < n /\ (g (j / sz))[j % sz]? = some v
 | 0, j, v, h => by simp at h
 | n + 1, j, v, h => by
   rw [A1p, A1s, A3k] at h
   have hl : (((List.range n).map g).flatten).length = n * sz := by
    clear h
    induction n with
    | zero => simp
    | succ n ih => rw [A1p, A1s, A3k, A0b, ih]; simp [hg, Nat.succ_mul]
   rcases A0r j (n * sz) with hj | hj
   . rw [A0f ya] at h
     obtain ⟨a, b⟩ := d9x h0 hg n j v h
     exact ⟨by omega, b⟩
   . rw [A0k ya, hl] at h
     have h' : (g n)[j - n * sz]? = some v := by simpa using h
     have hlt := (A0q.1 h').1
     rw [hg] at hlt
     have e : j = (j - n * sz) + n * sz := by omega
     have e1 : j / sz = n := by rw [e, Nat.add_mul_div_right _ _ h0, Nat.div_eq_of_lt hlt]; omega
     have e2 : j % sz = j - n * sz := by
      rw [show j % sz = ((j - n * sz) + n * sz) % sz by rw [<- e], Nat.add_mul_mod_self_right, Nat.mod_eq_of_lt hlt]
     exact ⟨by omega, by rw [e1, e2]; exact h'⟩
theorem b3v {a : Addr} {n : Nat} {cs : List Value} (h : w.cells? 0 a n = some cs) : cs.length = n /\ ∀ j v, cs[j]? = some v -> w.cell? (a.add j) = some v := by
 unfold World.cells? at h
 split at h
 . have hl := Lib.mapM_length h
   refine ⟨by simpa using hl, fun j v hv => ?_⟩
   have hj : j < n := by
    have := (A0q.1 hv).1
    rw [hl] at this; simpa using this
   obtain ⟨b, hb, hf⟩ := Lib.mapM_at h j j (by simp [hj])
   rw [hv] at hb
   obtain rfl := A5o hb
   exact hf
 . cases h
theorem b2g (ht : P.underlying t = some (.slice e)) (hc : P.cellsOf t = 1) (h0 : 0 < sz) (h : Rd P e sz f p) : Rd P t 1 (fun xs : List α => [.list sz (xs.map f)]) (fun N xs => xs.length <= N /\ ∀ x ∈ xs, p N x) := by
 obtain ⟨hce, hlen, hrd⟩ := h
 refine ⟨hc, fun _ => rfl, fun H enc w spare held fuel cs y hy N hN => ?_⟩
 rcases DataW.trod_slice ht hy with ⟨rfl, _⟩ | ⟨a, len, cap, elems, rest, n, rfl, rfl, rfl, hb, hl, hm, hel, hat, _, _⟩
 . exact ⟨[], ⟨A2a _, fun _ h => zr⟩, .cons _ _ _ _ (.list sz [] none 0 [] yd yd yd .nil) .nil⟩
 . simp only [bulk] at hN
   have hmem : ∀ i (hi : i < len), bulk (elems[i]'ya).1 <= N := fun i hi => by
    have := c2d (l := elems.map (·.1)) (d := (elems[i]'ya).1) (A1t.2 ⟨_, A5p _, rfl⟩)
    omega
   have hlN : len <= N := by
    have := d1h (elems.map (·.1))
    simp only [A1l] at this
    omega
   have each : ∀ i, i < len -> ∃ c, w.cells? 0 (a.add (i * sz)) sz = some c /\ ∃ x, p N x /\ RFs w (fun b => b < w.heap.size) (fun _ => False) (fun _ => (0, 0)) (f x) c := fun i hi => by
    have := hat i hi
    rw [A5n ya, A1h, hce] at this
    obtain ⟨c, h1, h2⟩ := this
    obtain ⟨x, hx, hr⟩ := hrd H enc w spare held n c _ h2 N (hmem i hi)
    exact ⟨c, h1, x, hx, hr⟩
   let g : Nat -> List Value := fun i => if hi : i < len then (each i hi).choose else List.replicate sz default
   have hg : ∀ i (hi : i < len), g i = (each i hi).choose := fun i hi => by simp [g, hi]
   have hgl : ∀ i, (g i).length = sz := fun i => by
    by_cases hi : i < len
    . rw [hg i hi]; exact (b3v (each i hi).choose_spec.1).1
    . simp [g, hi]
   obtain ⟨xs, k1, k2, k3⟩ := e9l (p := p N) (f := f) (w := w) (g := g) len fun i hi => by
    rw [hg i hi]; exact (each i hi).choose_spec.2
   have hcell : ∀ (j : Nat) (v : Value), (((List.range len).map g).flatten)[j]? = some v -> w.cell? (a.add j) = some v := fun j v hv => by
    obtain ⟨d1, d2⟩ := d9x h0 hgl len j v hv
    rw [hg _ d1] at d2
    have := (b3v (each _ d1).choose_spec.1).2 _ _ d2
    rw [b8j] at this
    rwa [show j / sz * sz + j % sz = j by rw [Nat.mul_comm]; exact Nat.div_add_mod j sz] at this
   refine ⟨xs, ⟨by omega, k2⟩, .cons _ _ _ _ ?_ .nil⟩
   have := RF.list (w := w) (F := fun b => b < w.heap.size) (U := fun _ => False) (m := fun _ => (0, 0)) sz (xs.map f) (some a) cap ((List.range len).map g).flatten (fun x hx => by
    obtain ⟨z, _, rfl⟩ := A1t.1 hx; exact hlen z) yz (fun hne => ⟨a, rfl, ?_, hcell⟩) k3
   . rw [A1l, k1] at this; exact this
   . have hl0 : 0 < len := by
      rcases A1v len with h | h
      . rw [h] at k1
        rw [A5u k1] at hne
        exact absurd rfl hne
      . exact h
     obtain ⟨v0, hv0⟩ : ∃ v, (g 0)[0]? = some v := ⟨(g 0)[0]'(by rw [hgl]; exact h0), A5n _⟩
     rw [hg 0 hl0] at hv0
     have := (b3v (each 0 hl0).choose_spec.1).2 0 _ hv0
     rcases A0r a.block w.heap.size with h' | h'
     . exact h'
     . exfalso
       have e : w.heap[a.block]? = none := by simp [h']
       simp [World.cell?, a6o, e] at this
theorem Rd.slice (h : Rd P t 1 f p) {enc : TypeId × Value -> H} {spare : Nat -> Bool} {held : Bool} {a : Option Addr} {l c : Nat} {d : DataW H} {ps : List MemPlace} (ht : DataW.Trod enc P w 0 spare held t (.slice a l c) d ps) :
 ∃ x, p (bulk d) x /\ RFs w (fun b => b < w.heap.size) (fun _ => False) (fun _ => (0, 0)) (f x) [.slice a l c] := by
 obtain ⟨n, hn⟩ := ht
 exact h.2.2 H enc w spare held n _ _ z3y _ (A5s _)
theorem Rd.struct (h : Rd P t sz f p) {enc : TypeId × Value -> H} {spare : Nat -> Bool} {held : Bool} {cs : Array Value} {d : DataW H} {ps : List MemPlace} (ht : DataW.Trod enc P w 0 spare held t (.agg cs) d ps) :
 ∃ x, p (bulk d) x /\ RFs w (fun b => b < w.heap.size) (fun _ => False) (fun _ => (0, 0)) [.agg (f x)] [.agg cs] := by
 obtain ⟨n, hn⟩ := ht
 obtain ⟨x, hx, hr⟩ := h.2.2 H enc w spare held n _ _ z3y _ (A5s _)
 exact ⟨x, hx, .cons _ _ _ _ (by simpa using RF.agg (f x) cs.toList hr) .nil⟩
end
end Go.FM
