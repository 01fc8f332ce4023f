/- One of the texts of a proof by an abstract machine over the model. -/
import Derived.Test.YtmhkendlllmodaaGreatDoorFmN
import Derived.Test.YtmhkendlllmodaaGreatDoorFmY
set_option linter.unusedSimpArgs false
set_option linter.unusedVariables false
namespace Go.FM
open Go Go.RowKit

/-! ### functions whose result is new memory -/
mutual
/-- a value that leads to no memory -/
def nf : FV → Bool
  | .undef | .int .. | .bool _ | .str _ | .nilp | .nils | .nilm | .nilf | .emp => true
  | .agg cs => nfs cs
  | .tup cs => nfs cs
  | .list .. | .ref _ | .ptr .. | .sl .. | .mp _ | .clo .. => false
def nfs : List FV → Bool
  | [] => true
  | x :: xs => nf x && nfs xs
end
theorem nfs_all (l : List FV) : nfs l = l.all nf := by
  induction l with
  | nil => rfl
  | cons x l ih => simp [nfs, ih]
section
variable {P : Program} {G : List (Nat × List Value)} {f : FuncId} {w w' : World} {F F' : Nat → Prop} {U U' : Loc → Prop} {m m' : Loc → Nat × Nat} {H : Heap}
mutual
theorem RF.free {a : FV} {v : Value} (h : RF w F U m a v) (ha : nf a = true) (w' : World) (F' : Nat → Prop) (U' : Loc → Prop) (m' : Loc → Nat × Nat) : RF w' F' U' m' a v :=
  match h with
  | .undef v => .undef v
  | .int k n => .int k n
  | .bool b => .bool b
  | .str s => .str s
  | .list .. => by simp [nf] at ha
  | .ref .. => by simp [nf] at ha
  | .agg cs vs h => .agg cs vs (RFs.free h ha w' F' U' m')
  | .tup cs vs h => .tup cs vs (RFs.free h ha w' F' U' m')
  | .ptr .. => by simp [nf] at ha
  | .nilp => .nilp
  | .sl .. => by simp [nf] at ha
  | .sl0 .. => by simp [nf] at ha
  | .nils => .nils
  | .mp .. => by simp [nf] at ha
  | .nilm => .nilm
  | .clo .. => by simp [nf] at ha
  | .nilf => .nilf
  | .emp A => .emp A
theorem RFs.free {as : List FV} {vs : List Value} (h : RFs w F U m as vs) (ha : nfs as = true) (w' : World) (F' : Nat → Prop) (U' : Loc → Prop) (m' : Loc → Nat × Nat) : RFs w' F' U' m' as vs :=
  match h with
  | .nil => .nil
  | .cons a v as vs h hs => by
    simp only [nfs, Bool.and_eq_true] at ha
    exact .cons a v as vs (RF.free h ha.1 w' F' U' m') (RFs.free hs ha.2 w' F' U' m')
end
/-- a result seen as new and read-only -/
def frzN (H : Heap) : FV → Option FV
  | .sl l sz off len => match H l with
    | some (.cells _ sz' xs) => if decide (sz' = sz) && (decide (off + len ≤ xs.length) && nfs ((xs.drop off).take len).flatten) then some (.list sz ((xs.drop off).take len)) else none
    | _ => none
  | v => if nf v then some v else none
theorem frzN_ok (hH : HeapR w F m H) {x y : FV} {v : Value} (h : frzN H x = some y) (hx : RF w F (fun l => H l ≠ none) m x v) : RF w (fun b => ∃ l, Live H m l ∧ (m l).1 = b) (fun _ => False) m' y v := by
  have plain : (if nf x then some x else none) = some y → RF w (fun b => ∃ l, Live H m l ∧ (m l).1 = b) (fun _ => False) m' y v := fun h => by
    split at h
    · rename_i hn
      obtain rfl := Option.some.inj h
      exact hx.free hn _ _ _ _
    · cases h
  cases x with
  | sl l sz off len =>
    simp only [frzN] at h
    split at h
    case h_2 => cases h
    rename_i T sz' xs hl
    split at h
    case isFalse => cases h
    rename_i hc
    simp only [Bool.and_eq_true, decide_eq_true_eq] at hc
    obtain ⟨hsz, hlen, hnf⟩ := hc
    rw [hsz] at hl
    obtain rfl := Option.some.inj h
    have hcl : ((xs.drop off).take len).length = len := by simp; omega
    rcases hH.obj l _ hl with ⟨rfl, h0⟩ | ⟨h0, c, g1, g2, g3, g4, g5⟩
    · have hl0 : len = 0 := by simp at hlen; omega
      subst hl0
      cases hx with
      | sl _ _ _ _ cap o hu hcap ho hs => simpa using RF.list sz [] _ cap [] (by simp) (by simp) (by simp) .nil
      | sl0 => simpa using RF.list sz [] _ 0 [] (by simp) (by simp) (by simp) .nil
    · have hpart := (g5.drop (off * sz)).take (len * sz)
      rw [← drop_flatten off xs g3, ← take_flatten len _ (fun x hx => g3 x (List.mem_of_mem_drop hx))] at hpart
      have hlive : Live H m l := ⟨_, hl, by simp, h0⟩
      cases hx with
      | sl _ _ _ _ cap o hu hcap ho hs =>
        have := RF.list (w := w) (F := fun b => ∃ l, Live H m l ∧ (m l).1 = b) (U := fun _ => False) (m := m') sz ((xs.drop off).take len) (some ⟨(m l).1, o, none⟩) cap _ (fun x hx => g3 x (List.mem_of_mem_drop (List.mem_of_mem_take hx))) (by omega) (fun hne => ?_) (hpart.free hnf _ _ _ _)
        · rw [hcl] at this; exact this
        · have hpos : 0 < len := by
            rcases Nat.eq_zero_or_pos len with e | e
            · exact absurd (List.eq_nil_of_length_eq_zero (by omega)) hne
            · exact e
          have ho' : o = off * sz := ho.resolve_left (by omega)
          refine ⟨_, rfl, ⟨l, hlive, rfl⟩, fun j u hj => ?_⟩
          rw [List.getElem?_take] at hj
          split at hj
          · rw [List.getElem?_drop, List.getElem?_take] at hj
            split at hj
            · rw [add0, cell_blk g1, ho']; simpa using hj
            · cases hj
          · cases hj
      | sl0 _ _ _ hu h00 => exact absurd h00 h0
  | _ => exact plain h
/-- a pure function whose result is new memory -/
def PCn (P : Program) (G : List (Nat × List Value)) (f : FuncId) (args : List FV) (r : FV) : Prop :=
  ∀ (w : World) (F : Nat → Prop) (m : Loc → Nat × Nat) (vs : List Value), (∀ y, F y → y < w.heap.size) → GlobOk G F w → RFs w F (fun _ => False) m args vs →
    Calls P f vs.toArray w fun e w' => ∃ (v : Value) (F' : Nat → Prop), e = .returned v ∧ (∀ y, F' y → w.heap.size ≤ y ∧ y < w'.heap.size) ∧ RF w' F' (fun _ => False) m r v ∧ Below w.heap.size w w'
def NEnd (P : Program) (res : List ResultVar) (r : FV) (e : Exit) (s : FS) : Prop :=
  (e = .normal ∨ e = .ret) ∧ ∃ s1, Wk s1 s ∧ ∃ l, resL P s1 res = some l ∧ ∃ y, frzN s1.H (tupOf l) = some y ∧ asR y r
theorem PCn_of {fn : Func} {code : Code} {c : Cfg} {nv : Nat} {args : List FV} {r : FV} (hf : P.funcs[f]? = some fn) (hb : fn.body = some code) (hN : c.N = fn.ntmps)
    (hargs : args.length ≤ nv) (hnv : nv ≤ fn.ntmps) (h : wCode P c code (NEnd P fn.results.toList r) (FS.init nv args noH)) : PCn P c.G f args r := by
  intro w F m vs hF hG hv
  have hv' : RFs w F (fun l => noH l ≠ none) m args vs := hv.keep (fun _ h => h) (fun _ _ => rfl) (fun _ h => h.elim) (fun _ h => h.elim)
  refine (fn_run hf hb hN hargs hnv h (fun _ h => absurd rfl h) w F m vs hF hG hv' (heapR_noH _ _ _)).mono ?_
  rintro e w' ⟨v, s1, l, F', m', a, rfl, ⟨y, hy, hr⟩, k1, k2, hR, hv2⟩
  have hnol : ∀ b, ¬ Ctx.lent ⟨w, F, noH, m⟩ b := fun b ⟨l, ⟨_, h, _⟩, _⟩ => by cases h
  refine ⟨v, _, rfl, fun b ⟨l, hl, e⟩ => ?_, (frzN_ok (m' := m) hR.heap hy hv2).asR hr, ⟨hR.os, hR.tape, hR.output, hR.size, fun b hb' => hR.keep b hb' (hnol b)⟩⟩
  rw [← e]
  exact ⟨(hR.own l hl).resolve_left (hnol _), (hR.heap.old l hl).1⟩
theorem PCn.pc {args : List FV} {r : FV} (h : PCn P G f args r) : PC P G f args r := by
  intro w F m vs hF hG hv hH
  refine (h w F m vs hF hG (hv.keep (fun _ h => h) (fun _ _ => rfl) (fun _ h => absurd rfl h) (fun _ h => absurd rfl h))).mono ?_
  rintro e w' ⟨v, F', rfl, h1, h2, hb⟩
  exact ⟨v, fun b => F b ∨ F' b, m, rfl, fun _ h => .inl h, fun y hy => by
    rcases hy with hy | hy
    · exact ⟨.inl hy, Nat.lt_of_lt_of_le (hF y hy) hb.size⟩
    · exact ⟨.inr (h1 y hy).1, (h1 y hy).2⟩, fun l hl => absurd rfl hl, h2.keep (fun _ h => .inr h) (fun _ _ => rfl) (fun _ h => h.elim) (fun _ h => h.elim), heapR_noH _ _ _, fun l ⟨_, h, _⟩ => (by cases h), hb.size, fun y hy _ => hb.block y hy, hb.os, hb.tape, hb.output⟩
/-- what is made here may be lent to it -/
theorem PCn.lend {args args1 args2 : List FV} {r : FV} {n : Nat} (hz : frzs H n args = some args1) (ha : asRs args1 args2) (h : PCn P G f args2 r) : FC P G f args H r H := by
  intro w F m vs hF hG hv hH
  obtain ⟨g1, _⟩ := (frz_ok (m' := m) hH n).2.1 _ _ _ hz hv
  refine (h w (frzF F H m) m vs (fun y hy => ?_) (hG.mono fun _ _ h => .inl h) (g1.asR ha)).mono ?_
  · rcases hy with hy | ⟨l, hl, rfl⟩
    · exact hF y hy
    · exact (hH.old l hl).1
  · rintro e w' ⟨v, F', rfl, h1, h2, hb⟩
    have hR := hH.below hF hb
    refine ⟨v, fun b => F b ∨ F' b, m, rfl, fun _ h => .inl h, fun y hy => ?_, fun l hl => ⟨rfl, hl⟩, h2.keep (fun _ h => .inr h) (fun _ _ => rfl) (fun _ h => h.elim) (fun _ h => h.elim), ?_, fun l hl => .inl ⟨l, hl, rfl⟩, hb.size, fun y hy _ => hb.block y hy, hb.os, hb.tape, hb.output⟩
    · rcases hy with hy | hy
      · exact ⟨.inl hy, Nat.lt_of_lt_of_le (hF y hy) hb.size⟩
      · exact ⟨.inr (h1 y hy).1, (h1 y hy).2⟩
    · refine ⟨fun l o ho => (hR.obj l o ho).keep (fun _ h => .inl h) (fun _ _ => rfl) (fun _ h => h) (fun _ _ => rfl) rfl (fun _ _ => rfl), hR.inj, fun l hl => ⟨(hR.old l hl).1, fun hF' => ?_⟩⟩
      rcases hF' with hF' | hF'
      · exact (hR.old l hl).2 hF'
      · have := (h1 _ hF').1
        have := (hH.old l hl).1
        omega
end

/-! ### the driver's forms -/
section
variable {P : Program} {c : Cfg} {Q : Exit → FS → Prop} {s : FS} {K : FS → Prop} {ops : Array Oper} {o : Oper} {rest : List Oper}
theorem lp_here {b : Code} (h : wCode P c (.loop b) Q s) : wCode P c (.loop b) Q s := h
theorem kl_here {σ : Type} {st : σ → FS} {μ : σ → Nat} {x : σ} (h : KLoop c st μ x Q .normal s) : KLoop c st μ x Q .normal s := h
theorem call_lendn {f : FuncId} {A A1 A2 : List FV} {r : FV} (n : Nat) (hpc : PCn P c.G f A2 r) (hz : frzs s.H n A = some A1) (ha : asRs A1 A2) (h : StK P c ops rest K (putD c o r s)) : CallG P c ops o rest K s f true A := ⟨rfl, r, s.H, hpc.lend hz ha, h⟩
theorem hlendn {n k : Nat} {H0 Hn : Heap} {As : List Heap} {f : FuncId} {A A1 A2 : List FV} {r : FV} (q : Nat) (hp : PCn P c.G f A2 r) (hz : frzs Hn q A = some A1) (ha : asRs A1 A2) (h : HNx P c ops n K H0 k o rest s As (some (r, noH))) :
    HCl P c ops n K H0 k o rest s As Hn f true A := ⟨rfl, r, noH, fun H2 h1 _ => hp.lend ((frz_mono h1 q).2.1 _ _ hz) ha, h⟩
def frzNRes (H : Heap) : Option (List FV) → Option FV
  | some l => frzN H (tupOf l)
  | none => none
theorem frzNRes_s (H : Heap) (l : List FV) : frzNRes H (some l) = frzN H (tupOf l) := rfl
theorem nfin_ok {res : List ResultVar} {r : FV} {e : Exit} (he : e = .normal ∨ e = .ret) (h : PFin (frzNRes s.H (resL P s res)) r) : NEnd P res r e s := by
  unfold PFin at h
  split at h
  · rename_i y hy
    unfold frzNRes at hy
    split at hy
    · rename_i l hl
      exact ⟨he, s, Wk.refl s, l, hl, y, hy, h⟩
    · cases hy
  · exact h.elim
theorem nfin_r {res : List ResultVar} {r : FV} (h : PFin (frzNRes s.H (resL P s res)) r) : NEnd P res r .ret s := nfin_ok (.inr rfl) h
theorem nfin_n {res : List ResultVar} {r : FV} (h : PFin (frzNRes s.H (resL P s res)) r) : NEnd P res r .normal s := nfin_ok (.inl rfl) h
theorem PCn_go {G : List (Nat × List Value)} {f : FuncId} {fn : Func} {code : Code} {res : List ResultVar} (nv n : Nat) (keep : List Nat) (nm : Nat → List Nat → Loc) {args : List FV} {r : FV} (hf : P.funcs[f]? = some fn) (hb : fn.body = some code) (hn : fn.ntmps = n) (hres : fn.results.toList = res)
    (hargs : args.length ≤ nv) (hnv : nv ≤ n) (h : wCode P ⟨n, keep, nm, G, fun _ => False⟩ code (NEnd P res r) (FS.init nv args noH)) : PCn P G f args r := by
  subst hn hres
  exact PCn_of (c := ⟨fn.ntmps, keep, nm, G, fun _ => False⟩) hf hb rfl hargs hnv h
end
end Go.FM
