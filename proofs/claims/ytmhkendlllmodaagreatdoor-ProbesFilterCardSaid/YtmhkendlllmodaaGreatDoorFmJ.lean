/- One of the texts of a proof by an abstract machine over the model. -/
import Derived.Test.YtmhkendlllmodaaGreatDoorFmI
set_option linter.unusedSimpArgs false
set_option linter.unusedVariables false
namespace Go.FM
open Go

/-- what the operations of a region that draws its order ask of the edges: heads 0 .. n-1, in any order; then the tail, in the text's order -/
def waitsB (o : Oper) (j : Nat) : Bool := o.after.any fun e => Region.binds .any e && e.on == j
def depsB (ops : Array Oper) (n k : Nat) (o : Oper) : Bool :=
  (deps ops o).all fun t => (List.range n).all fun j => !(((ops[j]?).bind (·.dst)) == some t) || (decide (j < k) && waitsB o j)
def awH (P : Program) (c : Cfg) (ops : Array Oper) (n : Nat) (K : FS → Prop) (H0 : Heap) : Nat → List Oper → FS → List Heap → Prop
  | k, o :: rest, s, As => if k < n then ∃ d v A Hn, Calm P c ops o { s with H := Hn } d v A ∧ depsB ops n k o = true ∧ (∀ l, A l ≠ none → s.H l = none) ∧
      (∀ l ob, Hn l = some ob → H0 l = some ob ∨ ∃ j Aj, As[j]? = some Aj ∧ waitsB o j = true ∧ Aj l = some ob) ∧ awH P c ops n K H0 (k + 1) rest ({ s with H := ext s.H A }.put d v) (As ++ [A])
    else wOps P c ops (o :: rest) K s
  | _, [], s, _ => K s
def seqFull (ops : Array Oper) (n : Nat) : Bool := Region.seqB .any ops (ops.size - n) n ((Array.range ops.size).map fun i => decide (i < n))
def backB (ops : Array Oper) : Bool := (List.range ops.size).all fun i => match ops[i]? with
  | some o => o.after.all fun e => !Region.binds .any e || decide (e.on < i)
  | none => true
def drawB (ops : Array Oper) (n : Nat) : Bool :=
  decide (n ≤ ops.size) && (((n == ops.size) || (Region.sinkB .any ops n && Region.chainB .any ops n)) && (seqFull ops n && (backB ops && decide (((ops.toList.take n).filterMap (·.dst)).Nodup))))
def awDraw (P : Program) (c : Cfg) (ops : Array Oper) (K : FS → Prop) (s : FS) : Prop := P.follows .mixedOrders = true ∧ ∃ n, drawB ops n = true ∧ awH P c ops n K s.H 0 ops.toList s []

structure Trace where
  sA : Nat → FS
  dA : Nat → Nat
  vA : Nat → FV
  AA : Nat → Heap

structure TraceOk (P : Program) (c : Cfg) (ops : Array Oper) (n : Nat) (H0 : Heap) (k : Nat) (T : Trace) : Prop where
  step : ∀ i, k ≤ i → i < n → ∃ o Hn, ops[i]? = some o ∧ Calm P c ops o { T.sA i with H := Hn } (T.dA i) (T.vA i) (T.AA i) ∧ depsB ops n i o = true ∧ (∀ l, T.AA i l ≠ none → (T.sA i).H l = none) ∧
    (∀ l ob, Hn l = some ob → H0 l = some ob ∨ ∃ j, j < i ∧ waitsB o j = true ∧ T.AA j l = some ob) ∧ T.sA (i + 1) = { T.sA i with H := ext (T.sA i).H (T.AA i) }.put (T.dA i) (T.vA i)

theorem awH_trace {P : Program} {c : Cfg} {ops : Array Oper} {n : Nat} {K : FS → Prop} {H0 : Heap} (hn : n ≤ ops.size) : ∀ (m k : Nat) (l : List Oper) (s : FS) (As : List Heap), n - k = m → k ≤ n → As.length = k → l = ops.toList.drop k → awH P c ops n K H0 k l s As →
    ∃ T : Trace, T.sA k = s ∧ (∀ j A, As[j]? = some A → T.AA j = A) ∧ TraceOk P c ops n H0 k T ∧ wOps P c ops (ops.toList.drop n) K (T.sA n)
  | 0, k, l, s, As, hm, hk, hA, hl, h => by
    have : k = n := by omega
    subst this
    refine ⟨⟨fun _ => s, fun _ => 0, fun _ => .undef, fun j => (As[j]?).getD noH⟩, rfl, fun j A hj => by simp [hj], ⟨fun i hi hi' => by omega⟩, ?_⟩
    subst hl
    cases hd : ops.toList.drop k with
    | nil => rw [hd] at h; exact h
    | cons o rest => rw [hd] at h; simp only [awH, Nat.lt_irrefl, if_false] at h; exact h
  | m + 1, k, l, s, As, hm, hk, hA, hl, h => by
    have hkn : k < n := by omega
    have hks : k < ops.toList.length := by simp; omega
    have hd : ops.toList.drop k = ops.toList[k] :: ops.toList.drop (k + 1) := List.drop_eq_getElem_cons hks
    rw [hl, hd] at h
    simp only [awH, hkn, if_true] at h
    obtain ⟨d, v, A, Hn, hq, hdep, hfr, hneed, h⟩ := h
    obtain ⟨T, h1, hAs, h2, h3⟩ := awH_trace hn m (k + 1) _ _ (As ++ [A]) (by omega) hkn (by simp [hA]) rfl h
    have hAk : T.AA k = A := hAs k A (by rw [List.getElem?_append_right (by omega)]; simp [hA])
    refine ⟨⟨fun i => if i = k then s else T.sA i, fun i => if i = k then d else T.dA i, fun i => if i = k then v else T.vA i, T.AA⟩, by simp, fun j B hj => hAs j B (by rw [List.getElem?_append_left (by rw [List.getElem?_eq_some_iff] at hj; exact hj.1)]; exact hj), ⟨fun i hi hi' => ?_⟩, ?_⟩
    · by_cases e : i = k
      · subst e
        refine ⟨ops.toList[i], Hn, by rw [← Array.getElem?_toList, List.getElem?_eq_getElem hks], ?_, hdep, ?_, fun l ob hl => ?_, ?_⟩
        · simpa [hAk] using hq
        · simpa [hAk] using hfr
        · rcases hneed l ob hl with g | ⟨j, Aj, g1, g2, g3⟩
          · exact .inl g
          · have hji : j < i := by have := (List.getElem?_eq_some_iff.1 g1).1; omega
            exact .inr ⟨j, hji, g2, by rw [hAs j Aj (by rw [List.getElem?_append_left (by omega)]; exact g1)]; exact g3⟩
        · have : i + 1 ≠ i := by omega
          simp only [this, if_false, if_true, hAk]
          exact h1
      · have e2 : i + 1 ≠ k := by omega
        simp only [e, e2, if_false]
        exact h2.step i (by omega) hi'
    · have : n ≠ k := by omega
      simp only [this, if_false]
      exact h3

section
variable {P : Program} {X : Ctx} {c : Cfg} {ops : Array Oper} {n : Nat} {T : Trace}

theorem Rel.same {s s' : FS} {a : Act} {w : World} (h : Rel X c s a w) (hg : ∀ t, s'.get t = s.get t) (hH : s'.H = s.H) (hvl : s'.vars.length = s.vars.length) : Rel X c s' a w := by
  obtain ⟨hN, F, m, h1, h2, hR⟩ := h
  exact ⟨hN, F, m, h1, h2, { hR with
    vsz := by rw [hvl]; exact hR.vsz
    val := fun t => by rw [hg t, hH]; exact hR.val t
    heap := by rw [hH]; exact hR.heap
    own := by rw [hH]; exact hR.own
    ext := by rw [hH]; exact hR.ext }⟩

theorem TraceOk.gets (h : TraceOk P c ops n (T.sA 0).H 0 T) (hinj : ∀ i j, i < n → j < n → T.dA i = T.dA j → i = j) : ∀ i, i ≤ n → (∀ j, j < i → (T.sA i).get (T.dA j) = T.vA j) ∧ (∀ t, (∀ j, j < i → T.dA j ≠ t) → (T.sA i).get t = (T.sA 0).get t) ∧
    (T.sA i).ix = (T.sA 0).ix ∧ (T.sA i).vars.length = (T.sA 0).vars.length ∧ (∀ j, j < i → ∀ l ob, T.AA j l = some ob → (T.sA i).H l = some ob) ∧ (∀ l, (∀ j, j < i → T.AA j l = none) → (T.sA i).H l = (T.sA 0).H l) := by
  intro i
  induction i with
  | zero => exact fun _ => ⟨fun j hj => by omega, fun _ _ => rfl, rfl, rfl, fun j hj => by omega, fun _ _ => rfl⟩
  | succ i ih =>
    intro hi
    obtain ⟨h1, h2, h3, h4, h5, h6⟩ := ih (by omega)
    obtain ⟨o, Hn, _, _, _, hfr, _, e⟩ := h.step i (Nat.zero_le _) (by omega)
    rw [e]
    refine ⟨fun j hj => ?_, fun t ht => ?_, by rw [ix_put]; exact h3, by rw [vars_put]; exact h4, fun j hj l ob hl => ?_, fun l hl => ?_⟩
    · rw [get_put]
      by_cases ej : j = i
      · subst ej; simp
      · rw [if_neg fun e' => ej (hinj j i (by omega) (by omega) e')]
        exact h1 j (by omega)
    · rw [get_put, if_neg fun e' => ht i (by omega) e'.symm]
      exact h2 t fun j hj => ht j (by omega)
    · rw [H_put]
      by_cases ej : j = i
      · subst ej; simp [ext, hl]
      · have hH := h5 j (by omega) l ob hl
        have hn' : T.AA i l = none := by
          cases hx : T.AA i l with
          | none => rfl
          | some o' => have := hfr l (by rw [hx]; simp); rw [hH] at this; cases this
        simp only [ext, hn']
        exact hH
    · rw [H_put]
      simp only [ext, hl i (by omega)]
      exact h6 l fun j hj => hl j (by omega)

/-- the heads' new names are apart -/
theorem TraceOk.apart (h : TraceOk P c ops n (T.sA 0).H 0 T) (hinj : ∀ i j, i < n → j < n → T.dA i = T.dA j → i = j) {i : Nat} (hi : i < n) {l : Loc} (hl : T.AA i l ≠ none) : (T.sA 0).H l = none ∧ ∀ j, j < n → j ≠ i → T.AA j l = none := by
  obtain ⟨_, _, _, _, h5, h6⟩ := h.gets hinj i (Nat.le_of_lt hi)
  obtain ⟨o, Hn, _, _, _, hfr, _, _⟩ := h.step i (Nat.zero_le _) hi
  have hno := hfr l hl
  have hlow : ∀ j, j < i → T.AA j l = none := fun j hj => by
    cases hx : T.AA j l with
    | none => rfl
    | some o' => have := h5 j hj l o' hx; rw [hno] at this; cases this
  refine ⟨by rw [← h6 l hlow]; exact hno, fun j hj hne => ?_⟩
  rcases Nat.lt_or_ge j i with h' | h'
  · exact hlow j h'
  · have hij : i < j := by omega
    obtain ⟨_, _, _, _, k5, _⟩ := h.gets hinj j (Nat.le_of_lt hj)
    obtain ⟨o2, Hn2, _, _, _, hfr2, _, _⟩ := h.step j (Nat.zero_le _) hj
    cases hx : T.AA j l with
    | none => rfl
    | some o' =>
      obtain ⟨oi, hoi⟩ := Option.ne_none_iff_exists'.1 hl
      have := hfr2 l (by rw [hx]; simp)
      rw [k5 i hij l oi hoi] at this; cases this

structure Agree (n : Nat) (T : Trace) (listed : Array Bool) (s : FS) : Prop where
  inS : ∀ j, j < n → listed.getD j false = true → s.get (T.dA j) = T.vA j
  out : ∀ t, (∀ j, j < n → listed.getD j false = true → T.dA j ≠ t) → s.get t = (T.sA 0).get t
  ix : s.ix = (T.sA 0).ix
  vl : s.vars.length = (T.sA 0).vars.length
  hA : ∀ j, j < n → listed.getD j false = true → ∀ l ob, T.AA j l = some ob → s.H l = some ob
  hO : ∀ l, (∀ j, j < n → listed.getD j false = true → T.AA j l = none) → s.H l = (T.sA 0).H l

theorem draw_run {Q : Exit → Act → World → Prop} (hT : TraceOk P c ops n (T.sA 0).H 0 T) (hinj : ∀ i j, i < n → j < n → T.dA i = T.dA j → i = j) (hn : n ≤ ops.size) (hsc : n = ops.size ∨ (Region.sinkB .any ops n = true ∧ Region.chainB .any ops n = true))
    (hseq : seqFull ops n = true) (hback : backB ops = true) (htail : ∀ a w, Rel X c (T.sA n) a w → wpList P ops Q (ops.toList.drop n) a w) :
    ∀ (m : Nat) (listed : Array Bool) (s : FS) (a : Act) (w : World), ((List.range n).filter fun i => !listed.getD i true).length = m → HeadInv .any ops n listed → Agree n T listed s → Rel X c s a w →
      wpAny P .any ops Q (m + (ops.size - n)) listed a w := by
  have apart := fun {i} hi {l} hl => hT.apart hinj (i := i) hi (l := l) hl
  intro m
  induction m with
  | zero =>
    intro listed s a w hm inv hag hR
    have hall : ∀ i, i < n → listed.getD i true = true := fun i hi => by
      have := List.eq_nil_of_length_eq_zero hm
      rw [List.filter_eq_nil_iff] at this
      simpa using this i (List.mem_range.2 hi)
    have hlist : listed = (Array.range ops.size).map fun i => decide (i < n) := by
      apply Array.ext
      · simp [inv.size]
      · intro i h1 h2
        have hio : i < ops.size := by rw [← inv.size]; exact h1
        simp only [Array.getElem_map, Array.getElem_range]
        by_cases hin : i < n
        · have := hall i hin
          simp [Array.getD, h1] at this
          simp [hin, this]
        · have := inv.tail i (by omega) hio
          simp [Array.getD, h1] at this
          simp [hin, this]
    have hR' : Rel X c (T.sA n) a w := by
      obtain ⟨g1, g2, g3, g4, g5, g6⟩ := hT.gets hinj n (Nat.le_refl _)
      have hf : ∀ j, j < n → listed.getD j false = true := fun j hj => by
        have := hall j hj
        have hjl : j < listed.size := by rw [inv.size]; omega
        simp [Array.getD, hjl] at this ⊢; exact this
      refine hR.same (fun t => ?_) ?_ (g4.trans hag.vl.symm)
      · by_cases ht : ∃ j, j < n ∧ T.dA j = t
        · obtain ⟨j, hj, rfl⟩ := ht
          rw [g1 j hj, hag.inS j hj (hf j hj)]
        · have ht' : ∀ j, j < n → T.dA j ≠ t := fun j hj e => ht ⟨j, hj, e⟩
          rw [g2 t ht', hag.out t fun j hj _ => ht' j hj]
      · funext l
        by_cases hl : ∃ j, j < n ∧ T.AA j l ≠ none
        · obtain ⟨j, hj, hne⟩ := hl
          obtain ⟨ob, hob⟩ := Option.ne_none_iff_exists'.1 hne
          rw [g5 j hj l ob hob, hag.hA j hj (hf j hj) l ob hob]
        · have hl' : ∀ j, j < n → T.AA j l = none := fun j hj => by
            cases hx : T.AA j l with
            | none => rfl
            | some o' => exact absurd ⟨j, hj, by rw [hx]; simp⟩ hl
          rw [g6 l hl', hag.hO l fun j hj _ => hl' j hj]
    have hdl : (ops.toList.drop n).length = ops.size - n := by simp
    have := wpAny_of_seq (P := P) (md := .any) (Q' := Q) (ops.toList.drop n) n listed a w (fun j => by simp [List.getElem?_drop]) (by rw [hdl, hlist]; exact hseq) (htail a w hR')
    rw [hdl] at this
    simpa using this
  | succ m ih =>
    intro listed s a w hm inv hag hR
    have hex : ∃ i, i < n ∧ listed.getD i true = false := by
      cases hl : (List.range n).filter fun i => !listed.getD i true with
      | nil => rw [hl] at hm; simp at hm
      | cons x xs =>
        have : x ∈ (List.range n).filter fun i => !listed.getD i true := by rw [hl]; simp
        rw [List.mem_filter, List.mem_range] at this
        exact ⟨x, this.1, by simpa using this.2⟩
    rw [show m + 1 + (ops.size - n) = (m + (ops.size - n)) + 1 by omega]
    refine ⟨fun hnil => ?_, fun i hi => ?_⟩
    · exfalso
      have least : ∀ k i, i ≤ k → i < n → listed.getD i true = false → False := by
        intro k
        induction k using Nat.strongRecOn with
        | _ k ihk =>
          intro i hik hin hun
          have hio : i < ops.size := by omega
          have hoi : ops[i]? = some ops[i] := Array.getElem?_eq_getElem hio
          have hnr : i ∉ Region.ready .any ops listed := by rw [hnil]; simp
          rw [mem_ready] at hnr
          have : ∃ e ∈ (ops[i]).after, Region.binds .any e = true ∧ listed.getD e.on false = false := by
            by_cases hh : ∃ e ∈ (ops[i]).after, Region.binds .any e = true ∧ listed.getD e.on false = false
            · exact hh
            · exfalso
              refine hnr ⟨hun, _, hoi, fun e he hb => ?_⟩
              by_cases h' : listed.getD e.on false = true
              · exact h'
              · exact absurd ⟨e, he, hb, by simpa using h'⟩ hh
          obtain ⟨e, he, hb, hl⟩ := this
          have hbk := List.all_eq_true.1 hback i (List.mem_range.2 hio)
          simp only [hoi] at hbk
          have hlt := (Array.all_eq_true'.1 hbk) e he
          simp only [hb, Bool.not_true, Bool.false_or, decide_eq_true_eq] at hlt
          exact ihk e.on (by omega) e.on (Nat.le_refl _) (by omega) (getD_in (by rw [inv.size]; omega) hl)
      obtain ⟨i, hi, hun⟩ := hex
      exact least i i (Nat.le_refl _) hi hun
    · have hin : i < n := by
        rcases Nat.lt_or_ge i n with h | h
        · exact h
        · obtain ⟨j, hj, hun⟩ := hex
          rcases hsc with e | ⟨hs, hc⟩
          · obtain ⟨_, oi, hoi, _⟩ := mem_ready.1 hi
            have := (Array.getElem?_eq_some_iff.1 hoi).1
            omega
          · by_cases e : n = ops.size
            · obtain ⟨_, oi, hoi, _⟩ := mem_ready.1 hi
              have := (Array.getElem?_eq_some_iff.1 hoi).1
              omega
            · exact absurd hi (tail_waits hs hc (by omega) inv _ j rfl hj hun i h)
      obtain ⟨hun, oi, hoi, hall⟩ := mem_ready.1 hi
      obtain ⟨o, Hn, ho, hq, hdep, hfr, hneed, hst⟩ := hT.step i (Nat.zero_le _) hin
      obtain rfl : o = oi := Option.some.inj (ho.symm.trans hoi)
      obtain ⟨g1, g2, g3, g4, g5, g6⟩ := hT.gets hinj i (Nat.le_of_lt hin)
      have hdst : ∀ j, j < n → (ops[j]?).bind (·.dst) = some (T.dA j) := fun j hj => by
        obtain ⟨o', _, ho', hq', _⟩ := hT.step j (Nat.zero_le _) hj
        rw [ho', Option.bind_some]
        exact hq'.1
      have hunf : listed.getD i false = false := getD_both hun
      have hwait : ∀ j, waitsB o j = true → listed.getD j false = true := fun j hj => by
        obtain ⟨e, he, hb⟩ := Array.any_eq_true'.1 hj
        simp only [Bool.and_eq_true, beq_iff_eq] at hb
        have := hall e he hb.1
        rw [hb.2] at this; exact this
      have hij : ∀ j, j < n → listed.getD j false = true → j ≠ i := fun j _ hl e => by rw [e] at hl; rw [hl] at hunf; cases hunf
      unfold wpOp
      simp only [ho]
      refine hq.2.2 X s a w _ Q (fun t ht => ?_) (hag.ix.trans g3.symm) (fun l ob hl => ?_) (fun l hl => ?_) hR fun u w' hR' => ih _ ({ s with H := ext s.H (T.AA i) }.put (T.dA i) (T.vA i)) _ w' ?_ (inv.set hi hin) ?_ hR'
      · show s.get t = (T.sA i).get t
        by_cases hh : ∃ j, j < n ∧ T.dA j = t
        · obtain ⟨j, hj, rfl⟩ := hh
          have h1 := List.all_eq_true.1 hdep _ ht
          have h2 := List.all_eq_true.1 h1 j (List.mem_range.2 hj)
          rw [hdst j hj] at h2
          simp only [beq_self_eq_true, Bool.not_true, Bool.false_or, Bool.and_eq_true, decide_eq_true_eq] at h2
          rw [hag.inS j hj (hwait j h2.2), g1 j h2.1]
        · have hh' : ∀ j, j < n → T.dA j ≠ t := fun j hj e => hh ⟨j, hj, e⟩
          rw [hag.out t fun j hj _ => hh' j hj, g2 t fun j hj => hh' j (by omega)]
      · rcases hneed l ob hl with h0 | ⟨j, hji, hw, hA⟩
        · rw [hag.hO l fun j hj _ => ?_]
          · exact h0
          · cases hx : T.AA j l with
            | none => rfl
            | some o' => have := (apart hj (l := l) (by rw [hx]; simp)).1; rw [h0] at this; cases this
        · exact hag.hA j (by omega) (hwait j hw) l ob hA
      · have := apart hin hl
        rw [hag.hO l fun j hj hlj => this.2 j hj (hij j hj hlj)]
        exact this.1
      · have hperm : ((List.range n).filter fun j => !listed.getD j true).length = ((List.range n).filter fun j => !(listed.setIfInBounds i true).getD j true).length + 1 := by
          have key : ∀ (l : List Nat), l.Nodup → i ∈ l → (l.filter fun j => !listed.getD j true).length = (l.filter fun j => !(listed.setIfInBounds i true).getD j true).length + 1 := by
            intro l
            induction l with
            | nil => intro _ h; cases h
            | cons x l ihl =>
              intro hnd hmem
              rw [List.nodup_cons] at hnd
              rw [List.filter_cons, List.filter_cons]
              by_cases hx : x = i
              · subst hx
                have e1 : (listed.setIfInBounds x true).getD x true = true := by
                  rcases Nat.lt_or_ge x listed.size with h | h <;> simp [Array.getD, h]
                simp only [hun, e1, Bool.not_false, Bool.not_true, if_true, List.length_cons]
                have : (l.filter fun j => !listed.getD j true) = l.filter fun j => !(listed.setIfInBounds x true).getD j true := by
                  apply List.filter_congr
                  intro j hj
                  have hne : x ≠ j := fun e => hnd.1 (e ▸ hj)
                  rw [getD_set_ne true hne]
                rw [this]
                simp
              · have hmem' : i ∈ l := by
                  rcases List.mem_cons.1 hmem with h | h
                  · exact absurd h.symm hx
                  · exact h
                rw [getD_set_ne true (Ne.symm hx)]
                have := ihl hnd.2 hmem'
                split
                · simp only [List.length_cons]; omega
                · exact this
          exact key _ List.nodup_range (List.mem_range.2 hin)
        omega
      · have hii : (listed.setIfInBounds i true).getD i false = true := by
          have hil : i < listed.size := by rw [inv.size]; omega
          simp [Array.getD, hil]
        refine ⟨fun j hj hl => ?_, fun t ht => ?_, by rw [ix_put]; exact hag.ix, by rw [vars_put]; exact hag.vl, fun j hj hl l ob hA => ?_, fun l hA => ?_⟩
        · rw [get_put]
          by_cases ej : j = i
          · subst ej; simp
          · rw [if_neg fun e => ej (hinj j i hj hin e)]
            rw [getD_set_ne false (Ne.symm ej)] at hl
            exact hag.inS j hj hl
        · rw [get_put, if_neg fun e => ht i hin hii e.symm]
          exact hag.out t fun j hj hl => ht j hj (getD_set_true hl)
        · rw [H_put]
          by_cases ej : j = i
          · subst ej; simp [ext, hA]
          · rw [getD_set_ne false (Ne.symm ej)] at hl
            have := (apart hj (l := l) (by rw [hA]; simp)).2 i hin (Ne.symm ej)
            simp only [ext, this]
            exact hag.hA j hj hl l ob hA
        · rw [H_put]
          simp only [ext, hA i hin hii]
          exact hag.hO l fun j hj hl => hA j hj (getD_set_true hl)

theorem trace_inj {H0 : Heap} (hT : TraceOk P c ops n H0 0 T) (hn : n ≤ ops.size) (hnd : ((ops.toList.take n).filterMap (·.dst)).Nodup) : ∀ i j, i < n → j < n → T.dA i = T.dA j → i = j := by
  have hdst : ∀ j, j < n → (ops[j]?).bind (·.dst) = some (T.dA j) := fun j hj => by
    obtain ⟨o', _, ho', hq', _⟩ := hT.step j (Nat.zero_le _) hj
    rw [ho', Option.bind_some]
    exact hq'.1
  have hlist : (ops.toList.take n).filterMap (·.dst) = (List.range n).map T.dA := by
    apply List.ext_getElem?
    have hall : ∀ (m : Nat), m ≤ n → (ops.toList.take m).filterMap (·.dst) = (List.range m).map T.dA := by
      intro m
      induction m with
      | zero => intro _; simp
      | succ m ih =>
        intro hm
        have hml : m < ops.toList.length := by simp; omega
        rw [List.take_succ_eq_append_getElem hml, List.filterMap_append, ih (by omega), List.range_succ, List.map_append]
        have := hdst m (by omega)
        rw [← Array.getElem?_toList, List.getElem?_eq_getElem hml, Option.bind_some] at this
        rw [List.filterMap_cons_some this]
        rfl
    intro i
    rw [hall n (Nat.le_refl _)]
  rw [hlist] at hnd
  intro i j hi hj e
  have := List.pairwise_iff_getElem.1 (List.nodup_iff_pairwise_ne.1 hnd)
  rcases Nat.lt_trichotomy i j with h | h | h
  · exact absurd (by rw [List.getElem_map, List.getElem_map, List.getElem_range, List.getElem_range]; exact e) (this i j (by simpa using hi) (by simpa using hj) h)
  · exact h
  · exact absurd (by rw [List.getElem_map, List.getElem_map, List.getElem_range, List.getElem_range]; exact e.symm) (this j i (by simpa using hj) (by simpa using hi) h)

theorem awDraw_ok {K : FS → Prop} {Q : Exit → Act → World → Prop} {id : Nat} {s : FS} {a : Act} {w : World} (hK : ∀ s a w, Rel X c s a w → K s → Q .normal a w) (h : Rel X c s a w) (hs : awDraw P c ops K s) : (Code.region id ops true).wp P Q a w := by
  obtain ⟨hm, n, hB, hH⟩ := hs
  have hdrew : Rel X c s a { w with drawn := w.drawn + 1 } := by
    obtain ⟨hN, F, m, h1, h2, hR⟩ := h
    exact ⟨hN, F, m, h1, h2, hR.world (Nat.le_refl _) (fun _ _ => rfl) rfl rfl rfl⟩
  refine wp_region_any hm ?_
  simp only [drawB, Bool.and_eq_true, Bool.or_eq_true, beq_iff_eq, decide_eq_true_eq] at hB
  obtain ⟨hn, hsc, hsq, hbk, hnd⟩ := hB
  obtain ⟨T, hT0, _, hT, htail⟩ := awH_trace hn n 0 _ s [] (by omega) (Nat.zero_le _) rfl (by simp) hH
  have inv0 : HeadInv .any ops n (Array.replicate ops.size false) :=
    ⟨by simp, fun j oj _ hl => (by rw [getD_replicate_false] at hl; cases hl), fun t _ ht => getD_in (by simpa using ht) (getD_replicate_false _ _)⟩
  have hag : Agree n T (Array.replicate ops.size false) s := ⟨fun j _ hl => (by rw [getD_replicate_false] at hl; cases hl), fun t _ => by rw [hT0], by rw [hT0], by rw [hT0], fun j _ hl => (by rw [getD_replicate_false] at hl; cases hl), fun l _ => by rw [hT0]⟩
  have hcount : ((List.range n).filter fun i => !(Array.replicate ops.size false).getD i true).length = n := by
    rw [List.filter_eq_self.2, List.length_range]
    intro i hi
    rw [List.mem_range] at hi
    have hio : i < ops.size := by omega
    simp [Array.getD, hio]
  have hT' : TraceOk P c ops n (T.sA 0).H 0 T := by rw [hT0]; exact hT
  have := draw_run (Q := Q) hT' (trace_inj hT hn hnd) hn hsc hsq hbk (fun a w h' => wOps_ok hK _ _ a w h' htail) n _ s a _ hcount inv0 hag hdrew
  rw [show n + (ops.size - n) = ops.size by omega] at this
  exact this
end
end Go.FM
