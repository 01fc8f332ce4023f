/- One of the texts of a proof by an abstract machine over the model. -/
import Derived.Test.YthlhjepijodemaaAmL
set_option linter.unusedSimpArgs false
set_option linter.unusedVariables false
namespace Go.AM
open Go

section
variable {P : Program} {c : Cfg} {w0 w w' : World} {A0 : List Nat} {ps : List (Nat × Value)} {F F' : Nat → Prop} {bs bs' : Nat → List Nat} {fr fr' : List Nat} {s s' : St} {a a' : Act} {o : Oper}

/-! ### store -/
def storeB (s : St) (r : Nat) (p : List Stp) : Nat → List AV → St
  | _, [] => s
  | j, x :: xs => storeB { s.put r (setAt (s.get r) (bump p j) x) with D := (r, 1) :: s.D } r p (j + 1) xs
theorem storeB_eq (r : Nat) (q : List Stp) (st : Stp) : ∀ (xs : List AV) (j : Nat) (s : St), storeB s r (q ++ [st]) j xs = storeL s r q st j xs
  | [], _, _ => rfl
  | x :: xs, j, s => by simp only [storeB, storeL, bump_append, storeB_eq r q st xs]

def aStore (P : Program) (o : Oper) (t : TypeId) (ad x : Operand) (s : St) : Option St := match szT P t, o.dst with
  | some n, none => match (ro P s t x).take with
    | some (v, wr) => match (ro P (s.apply wr) 0 ad).v with
      | .loc q p => if (ro P (s.apply wr) 0 ad).ok && (v.storable && (decide (v.cellsL.length = n) && (collect (fun j => nodeAt (ro P (s.apply wr) 0 ad).root (bump p j)) n 0).isSome)) && decide (0 < n) then
          some (storeB (s.apply wr) q p 0 v.cellsL) else none
      | _ => none
    | none => none
  | _, _ => none
theorem collect_get {f : Nat → Option AV} : ∀ {n i : Nat} {cs : List AV}, collect f n i = some cs → ∀ j < n, ∃ x, f (i + j) = some x
  | 0, _, _, _, j, hj => by omega
  | n + 1, i, cs, h, j, hj => by
    simp only [collect, Option.bind_eq_some_iff, Option.map_eq_some_iff] at h
    obtain ⟨x, hx, cs', hcs, rfl⟩ := h
    cases j with
    | zero => exact ⟨x, hx⟩
    | succ j =>
      obtain ⟨y, hy⟩ := collect_get hcs j (by omega)
      exact ⟨y, by rw [show i + (j + 1) = i + 1 + j by omega]; exact hy⟩
theorem aStore_ok {t : TypeId} {ad x : Operand} (hs : aStore P o t ad x s = some s') (ho : o.op = .store t ad x) : Snd P c o s s' := by
  intro w0 A0 ps F bs fr a w hN hp h
  unfold aStore at hs
  split at hs
  · rename_i n hn hd
    split at hs
    · rename_i v wr ht
      split at hs
      · rename_i q p hv
        split at hs
        · rename_i hc
          rw [Bool.and_eq_true, Bool.and_eq_true, Bool.and_eq_true, Bool.and_eq_true] at hc
          obtain ⟨⟨hok, hst, hlen, hcol⟩, hpos⟩ := hc
          have hpos := of_decide_eq_true hpos
          have hlen := of_decide_eq_true hlen
          obtain rfl := by simpa using hs
          obtain ⟨b, bs1, hb, h1⟩ := ro_take h _ x ht
          obtain ⟨e1, e2, q', st', rfl, e3⟩ := ro_loc h1 _ ad hv hok
          rw [e1] at hcol
          obtain ⟨cs, hcs⟩ := Option.isSome_iff_exists.1 hcol
          have hget := collect_get hcs
          obtain ⟨u, hu⟩ := hget 0 hpos
          rw [bump_append] at hu
          obtain ⟨base, hb1, hb2⟩ := e3 u hu
          have hh : ((s.apply wr).get q).isH = false := by
            by_cases hh : ((s.apply wr).get q).isH = true
            · have := nodeAt_isH hh hu; simp at this
            · simpa using hh
          obtain ⟨g1, g2⟩ := storable_cells hst
          have hcl := cells_of hb g1
          obtain ⟨w', bs', hrun, h'⟩ := storeCells_ok (P := P) (r := q) (q := q') (st := st') (base := base) v.cellsL (a.eval x).cells.toList b 0 (s.apply wr) bs1 w hcl g2 h1 hh (fun i hi => by
            obtain ⟨z, hz⟩ := hget i (by omega)
            rw [bump_append] at hz
            exact ⟨z, hz⟩) hb1
          rw [storeB_eq]
          refine ⟨bs', fr, undef, w', .inr ⟨?_, rfl⟩, by rw [hd]; exact h'⟩
          have hsz : (a.eval x).cells.size = n := by rw [← hlen, hcl.length]; simp
          simp [execOp, ho, hb2, Instr.storeAt, Instr.sureAddr, storeVar, run_szT hn, hsz, hrun]
        · cases hs
      · cases hs
    · cases hs
  · cases hs

/-! ### an element's address; a length -/
def aIndex (P : Program) (c : Cfg) (o : Oper) (t : TypeId) (x i : Operand) (s : St) : Option St := match slT P t, (ro P s 0 i).v with
  | some (_, sz), .int _ n => match (ro P s t x).v with
    | .bor q p => if (ro P s t x).ok then match nodeAt (ro P s t x).root p with
        | some (.own sz' xs) => if decide (sz' = sz) && (decide (0 ≤ n) && decide (n < (xs.length : Int))) then putD c o (.loc q (p ++ [⟨n.toNat, sz, 0⟩])) s else none
        | _ => none
      else none
    | .list sz' xs => if decide (sz' = sz) && decide (0 ≤ n) then match xs[n.toNat]? with
        | some e => putD c o (.ref e) s
        | none => none
      else none
    | _ => none
  | _, _ => none
theorem aIndex_ok {t : TypeId} {x i : Operand} (hs : aIndex P c o t x i s = some s') (ho : o.op = .indexAddr t x i) : Snd P c o s s' := by
  intro w0 A0 ps F bs fr a w hN hp h
  unfold aIndex at hs
  split at hs
  · rename_i e sz k n ht hi
    obtain ⟨hu, hz⟩ := slT_some ht
    obtain ⟨bi, hbi, _⟩ := ro_plain h 0 i (P := P) (by rw [hi]; rfl)
    rw [hi] at hbi
    generalize hvi : a.eval i = vi at hbi
    cases hbi
    split at hs
    · rename_i q p hv
      split at hs
      · rename_i hok
        obtain ⟨e1, e2, e3⟩ := ro_bor h _ x hv hok
        rw [e1] at hs
        split at hs
        · rename_i sz' xs hn
          split at hs
          · rename_i hc
            rw [Bool.and_eq_true, Bool.and_eq_true] at hc
            obtain ⟨hsz, h0, hlt⟩ := hc
            have hsz := of_decide_eq_true hsz
            have h0 := of_decide_eq_true h0
            have hlt := of_decide_eq_true hlt
            subst hsz
            have hval := e3 _ hn (by simp)
            have hh : (s.get q).isH = false := by
              by_cases hh : (s.get q).isH = true
              · have := nodeAt_isH hh hn
                subst this
                simp only [nodeAt, Option.some.injEq] at hn
                rw [hn] at hh; cases hh
              · simpa using hh
            obtain ⟨vc, l1, bc, l2, h1, h2, _⟩ := ((h.val q).nonh hh).path p hn
            rw [h1] at hval
            obtain rfl : vc = a.eval x := by simpa using hval
            generalize hx : a.eval x = vx at h2 h1
            cases h2 with
            | own0 => simp at hlt; omega
            | own _ _ g cap cells T b hg hl hn' hc' hvs =>
              obtain ⟨bs', fr', h'⟩ := put_okH (x := .loc q (p ++ [⟨n.toNat, sz', 0⟩])) (v := .pointer (some ((⟨g, 0, none⟩ : Addr).add (n.toNat * sz')))) h hN hp
                ⟨rfl, fun _ => ⟨e2, p, _, rfl, fun _ _ => ⟨⟨g, 0, none⟩, by rw [h1]; rfl, by simp [Stp.k]⟩⟩⟩ hs
              exact ⟨bs', fr', _, w, .inl (by simp [execOp, ho, hx, hvi, Instr.indexAt, asIntOf, run_underlying hu, run_szT hz, h0, hlt]), h'⟩
          · cases hs
        · cases hs
      · cases hs
    · rename_i sz' xs hv
      split at hs
      · rename_i hc
        rw [Bool.and_eq_true] at hc
        obtain ⟨hsz, h0⟩ := hc
        have hsz := of_decide_eq_true hsz
        have h0 := of_decide_eq_true h0
        subst hsz
        split at hs
        · rename_i el hel
          obtain ⟨b, hb, _⟩ := ro_plain h t x (P := P) (by rw [hv]; rfl)
          rw [hv] at hb
          generalize hx : a.eval x = vx at hb
          cases hb with
          | list _ _ A cap vs hl hcap hm hvs =>
          have hlt : n.toNat < xs.length := by rw [List.getElem?_eq_some_iff] at hel; exact hel.1
          obtain ⟨ad, rfl, hF, hcell⟩ := hm (fun e => by rw [e] at hlt; simp at hlt)
          have hpart := (hvs.drop (n.toNat * sz')).take sz'
          rw [flat_part sz' xs n.toNat el hl hel] at hpart
          have hr : RV w F (.ref el) (.pointer (some (ad.add (n.toNat * sz')))) [] := .ref _ _ _ (by rw [block_add]; exact hF) (fun j v hj => by
            rw [add_add]; refine hcell _ v ?_
            rw [List.getElem?_take] at hj; split at hj
            · rw [List.getElem?_drop] at hj; exact hj
            · cases hj) hpart
          obtain ⟨bs', fr', h'⟩ := put_ok (b := []) h hN hp hr hs
          have hlt' : n < (xs.length : Int) := by omega
          exact ⟨bs', fr', _, w, .inl (by simp [execOp, ho, hx, hvi, Instr.indexAt, asIntOf, run_underlying hu, run_szT hz, h0, hlt']), h'⟩
        · cases hs
      · cases hs
    · cases hs
  · cases hs

def aLen (P : Program) (c : Cfg) (o : Oper) (t : TypeId) (x : Operand) (s : St) : Option St := match (ro P s t x).cont with
  | some (.list _ xs) => if (slT P t).isSome then putD c o (.int .i64 xs.length) s else none
  | some (.own _ xs) => if (slT P t).isSome then putD c o (.int .i64 xs.length) s else none
  | some (.nils _) => if (slT P t).isSome then putD c o (.int .i64 0) s else none
  | some (.str m) => if strT P t then putD c o (.int .i64 m.size) s else none
  | _ => none
theorem aLen_ok {t ty : TypeId} {x : Operand} (hs : aLen P c o t x s = some s') (ho : o.op = .call { callee := .builtin .len, args := #[x], argTypes := #[t] }) (_ : ty = o.type) : Snd P c o s s' := by
  intro w0 A0 ps F bs fr a w hN hp h
  unfold aLen at hs
  split at hs
  · rename_i sz xs hv
    split at hs
    · rename_i ht
      obtain ⟨⟨e, n⟩, ht⟩ := Option.isSome_iff_exists.1 ht
      obtain ⟨hu, _⟩ := slT_some ht
      obtain ⟨b, hb⟩ := ro_cont h _ x hv
      generalize hx : a.eval x = vx at hb
      cases hb
      obtain ⟨bs', fr', h'⟩ := put_ok (b := []) h hN hp (.int _ _) hs
      exact ⟨bs', fr', _, w, .inl (by simp [execOp, ho, resolve, invoke, builtin, Builtin.len_, hx, run_underlying hu, goInt]), h'⟩
    · cases hs
  · rename_i sz xs hv
    split at hs
    · rename_i ht
      obtain ⟨⟨e, n⟩, ht⟩ := Option.isSome_iff_exists.1 ht
      obtain ⟨hu, _⟩ := slT_some ht
      obtain ⟨b, hb⟩ := ro_cont h _ x hv
      generalize hx : a.eval x = vx at hb
      obtain ⟨A, cap, rfl⟩ : ∃ A cap, vx = .slice A xs.length cap := by cases hb <;> exact ⟨_, _, rfl⟩
      obtain ⟨bs', fr', h'⟩ := put_ok (b := []) h hN hp (.int _ _) hs
      exact ⟨bs', fr', _, w, .inl (by simp [execOp, ho, resolve, invoke, builtin, Builtin.len_, hx, run_underlying hu, goInt]), h'⟩
    · cases hs
  · rename_i sz hv
    split at hs
    · rename_i ht
      obtain ⟨⟨e, n⟩, ht⟩ := Option.isSome_iff_exists.1 ht
      obtain ⟨hu, _⟩ := slT_some ht
      obtain ⟨b, hb⟩ := ro_cont h _ x hv
      generalize hx : a.eval x = vx at hb
      cases hb
      obtain ⟨bs', fr', h'⟩ := put_ok (b := []) h hN hp (.int _ _) hs
      exact ⟨bs', fr', _, w, .inl (by simp [execOp, ho, resolve, invoke, builtin, Builtin.len_, hx, run_underlying hu, goInt]), h'⟩
    · cases hs
  · rename_i m hv
    split at hs
    · rename_i ht
      obtain ⟨b, hb⟩ := ro_cont h _ x hv
      generalize hx : a.eval x = vx at hb
      cases hb
      obtain ⟨bs', fr', h'⟩ := put_ok (b := []) h hN hp (.int _ _) hs
      exact ⟨bs', fr', _, w, .inl (by simp [execOp, ho, resolve, invoke, builtin, Builtin.len_, hx, run_underlying (strT_some ht), goInt]), h'⟩
    · cases hs
  · cases hs

/-- the least of integers -/
def aMins : AV → List AV → Option AV
  | .int k n, [] => some (.int k n)
  | .int k n, .int k' m :: r => if k = k' then aMins (.int k (if m < n then m else n)) r else none
  | _, _ => none
def conts (P : Program) (s : St) : List (Operand × TypeId) → Option (List AV)
  | [] => some []
  | (x, t) :: r => ((ro P s t x).cont).bind fun v => (conts P s r).map (v :: ·)
theorem conts_ok (h : RelX w0 A0 ps F bs fr s a w) : ∀ (l : List (Operand × TypeId)) (vs : List AV), conts P s l = some vs → ∃ b, RVs w F vs (l.map fun x => a.eval x.1) b
  | [], vs, hv => by simp [conts] at hv; subst hv; exact ⟨[], .nil⟩
  | (x, t) :: r, vs, hv => by
    simp only [conts, Option.bind_eq_some_iff, Option.map_eq_some_iff] at hv
    obtain ⟨v, hv, vs', hvs, rfl⟩ := hv
    obtain ⟨b, hb⟩ := ro_cont h t x hv
    obtain ⟨b', hb'⟩ := conts_ok h r vs' hvs
    exact ⟨b ++ b', .cons _ _ _ _ _ _ hb hb'⟩
theorem aMins_ok : ∀ (l : List AV) (x r : AV) (vx : Value) (vs : List Value) (b b' : List Nat), aMins x l = some r → RV w F x vx b → RVs w F l vs b' → ∃ v, (vs.foldlM Builtin.min2 vx : Sem Value).run P w = .ok v w ∧ RV w F r v []
  | [], x, r, vx, vs, b, b', h, hx, hl => by
    cases hl
    cases x <;> simp [aMins] at h
    subst h
    cases hx
    exact ⟨_, by simp, .int _ _⟩
  | y :: l, x, r, vx, vs, b, b', h, hx, hl => by
    cases hl with
    | cons _ vy b1 _ vs b2 h1 h2 =>
    cases x <;> cases y <;> first | (simp [aMins] at h; done) | skip
    simp only [aMins] at h
    cases hx; cases h1
    split at h
    case isFalse => cases h
    rename_i hk; subst hk
    obtain ⟨v, hv, hr⟩ := aMins_ok l _ r _ vs [] b2 h (.int _ _) h2
    exact ⟨v, by simp [List.foldlM_cons, Builtin.min2, hv], hr⟩
def aMin (P : Program) (c : Cfg) (o : Oper) (args : Array Operand) (ts : Array TypeId) (s : St) : Option St :=
  ((conts P s (args.toList.map fun x => (x, ts.getD 0 0))).bind fun l => match l with
    | [] => none
    | x :: l => aMins x l).bind fun r => putD c o r s
theorem aMin_ok {args : Array Operand} {ts : Array TypeId} (hs : aMin P c o args ts s = some s') (ho : o.op = .call { callee := .builtin .min, args := args, argTypes := ts }) : Snd P c o s s' := by
  intro w0 A0 ps F bs fr a w hN hp h
  simp only [aMin, Option.bind_eq_some_iff] at hs
  obtain ⟨r, ⟨l, hl, hr⟩, hs⟩ := hs
  obtain ⟨b, hb⟩ := conts_ok h _ _ hl
  cases l with
  | nil => simp at hr
  | cons x l =>
    generalize hvs : (args.toList.map fun x => (x, ts.getD 0 0)).map (fun x => a.eval x.1) = vs at hb
    cases hb with
    | cons _ v b1 _ vs b2 h1 h2 =>
    obtain ⟨vr, hrun, hrv⟩ := aMins_ok (P := P) l x r v vs b1 b2 hr h1 h2
    obtain ⟨bs', fr', h'⟩ := put_ok (b := []) h hN hp hrv hs
    have e : (args.map a.eval).toList = v :: vs := by rw [← hvs]; simp [Function.comp_def]
    refine ⟨bs', fr', vr, w, .inl ?_, h'⟩
    simp only [execOp, ho, resolve, invoke, builtin, Builtin.min_, Sem.run_bind, Sem.run_pure, Result.andThen_ok, e, hrun]
end
end Go.AM
