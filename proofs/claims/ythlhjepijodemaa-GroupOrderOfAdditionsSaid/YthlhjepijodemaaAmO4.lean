/- One of the texts of a proof by an abstract machine over the model. -/
import Derived.Test.YthlhjepijodemaaAmO3
set_option linter.unusedSimpArgs false
set_option linter.unusedVariables false
namespace Go.AM
open Go

/-- what the operations of a region that draws its order ask of the edges: heads 0 .. n-1, in any order; then the tail, in the text's order -/
def depsB (ops : Array Oper) (n k : Nat) (o : Oper) (s : St) : Bool :=
  (deps ops o s).all fun t => (List.range n).all fun j => !(((ops[j]?).bind (·.dst)) == some t) || (decide (j < k) && o.after.any fun e => Region.binds .any e && e.on == j)
def awH (P : Program) (c : Cfg) (ops : Array Oper) (n : Nat) (K : St → Prop) : Nat → List Oper → St → Prop
  | k, o :: rest, s => if k < n then ∃ d v, Quiet P c ops o s d v ∧ depsB ops n k o s = true ∧ awH P c ops n K (k + 1) rest (s.put d v) else awOps P c ops (o :: rest) K s
  | _, [], s => K s
def seqFull (ops : Array Oper) (n : Nat) : Bool := Region.seqB .any ops (ops.size - n) n ((Array.range ops.size).map fun i => decide (i < n))
def backB (ops : Array Oper) : Bool := (List.range ops.size).all fun i => match ops[i]? with
  | some o => o.after.all fun e => !Region.binds .any e || decide (e.on < i)
  | none => true
def drawB (ops : Array Oper) (n : Nat) : Bool :=
  decide (n < ops.size) && (Region.sinkB .any ops n && (Region.chainB .any ops n && (seqFull ops n && (backB ops && decide (((ops.toList.take n).filterMap (·.dst)).Nodup)))))
/-- the same, where one head may come behind the tail's first operation -/
def sinkLate (ops : Array Oper) (n j : Nat) : Bool := (List.range n).all fun i => (i == j) || (List.range (n + 1)).any fun t => !(t == j) && (decide (i < t) && Region.waitsFor .any ops t i)
def upToB (ops : Array Oper) (n : Nat) : Array Bool := (Array.range ops.size).map fun i => decide (i < n)
def lateB (ops : Array Oper) (n j : Nat) : Bool :=
  decide (n < ops.size) && (decide (j < n) && (sinkLate ops n j && (Region.chainB .any ops n && (seqFull ops n && (backB ops && (decide (((ops.toList.take n).filterMap (·.dst)).Nodup) &&
    (decide (Region.ready .any ops ((Array.range ops.size).map fun i => decide (i ≤ n ∧ i ≠ j)) = [j]) && Region.seqB .any ops (ops.size - (n + 1)) (n + 1) (upToB ops (n + 1)))))))))
/-- what follows the heads: in both orders -/
def LateK (P : Program) (c : Cfg) (ops : Array Oper) (n j : Nat) (K : St → Prop) (s : St) : Prop :=
  awOps P c ops (ops.toList.drop n) K s ∧ ∃ on oj dj, ops[n]? = some on ∧ ops[j]? = some oj ∧ oj.dst = some dj ∧ awOps P c ops (on :: oj :: ops.toList.drop (n + 1)) K (s.put dj .undef)
def awDraw (P : Program) (c : Cfg) (ops : Array Oper) (K : St → Prop) (s : St) : Prop := P.follows .mixedOrders = true ∧
  ((∃ n, drawB ops n = true ∧ awH P c ops n K 0 ops.toList s) ∨ ∃ n j, lateB ops n j = true ∧ awH P c ops n (LateK P c ops n j K) 0 (ops.toList.take n) s)

structure Trace (P : Program) (c : Cfg) (ops : Array Oper) (n : Nat) where
  sA : Nat → St
  dA : Nat → Nat
  vA : Nat → AV

structure TraceOk (P : Program) (c : Cfg) (ops : Array Oper) (n : Nat) (k : Nat) (T : Trace P c ops n) : Prop where
  step : ∀ i, k ≤ i → i < n → ∃ o, ops[i]? = some o ∧ Quiet P c ops o (T.sA i) (T.dA i) (T.vA i) ∧ depsB ops n i o (T.sA i) = true ∧ T.sA (i + 1) = (T.sA i).put (T.dA i) (T.vA i)

theorem awH_trace {P : Program} {c : Cfg} {ops : Array Oper} {n : Nat} {K : St → Prop} (hn : n ≤ ops.size) : ∀ (m k : Nat) (l : List Oper) (s : St), n - k = m → k ≤ n → l = ops.toList.drop k → awH P c ops n K k l s →
    ∃ T : Trace P c ops n, T.sA k = s ∧ TraceOk P c ops n k T ∧ awOps P c ops (ops.toList.drop n) K (T.sA n)
  | 0, k, l, s, hm, hk, hl, h => by
    have : k = n := by omega
    subst this
    refine ⟨⟨fun _ => s, fun _ => 0, fun _ => .undef⟩, rfl, ⟨fun i hi hi' => by omega⟩, ?_⟩
    subst hl
    cases hd : ops.toList.drop k with
    | nil => rw [hd] at h; exact h
    | cons o rest => rw [hd] at h; simp only [awH, Nat.lt_irrefl, if_false] at h; exact h
  | m + 1, k, l, s, hm, hk, hl, h => by
    have hkn : k < n := by omega
    have hks : k < ops.toList.length := by simp; omega
    have hd : ops.toList.drop k = ops.toList[k] :: ops.toList.drop (k + 1) := List.drop_eq_getElem_cons hks
    rw [hl, hd] at h
    simp only [awH, hkn, if_true] at h
    obtain ⟨d, v, hq, hdep, h⟩ := h
    obtain ⟨T, h1, h2, h3⟩ := awH_trace hn m (k + 1) _ _ (by omega) hkn rfl h
    refine ⟨⟨fun i => if i = k then s else T.sA i, fun i => if i = k then d else T.dA i, fun i => if i = k then v else T.vA i⟩, by simp, ⟨fun i hi hi' => ?_⟩, ?_⟩
    · by_cases e : i = k
      · subst e
        refine ⟨ops.toList[i], by rw [← Array.getElem?_toList, List.getElem?_eq_getElem hks], ?_, ?_, ?_⟩
        · simpa using hq
        · simpa using hdep
        · have : i + 1 ≠ i := by omega
          simp only [this, if_false, if_true]
          exact h1
      · have e2 : i + 1 ≠ k := by omega
        simp only [e, e2, if_false]
        exact h2.step i (by omega) hi'
    · have : n ≠ k := by omega
      simp only [this, if_false]
      exact h3

theorem awH_trace2 {P : Program} {c : Cfg} {ops : Array Oper} {n : Nat} {K : St → Prop} (hn : n ≤ ops.size) : ∀ (m k : Nat) (l : List Oper) (s : St), n - k = m → k ≤ n → l = (ops.toList.take n).drop k → awH P c ops n K k l s →
    ∃ T : Trace P c ops n, T.sA k = s ∧ TraceOk P c ops n k T ∧ K (T.sA n)
  | 0, k, l, s, hm, hk, hl, h => by
    have : k = n := by omega
    subst this
    refine ⟨⟨fun _ => s, fun _ => 0, fun _ => .undef⟩, rfl, ⟨fun i hi hi' => by omega⟩, ?_⟩
    have e : (ops.toList.take k).drop k = [] := List.drop_eq_nil_of_le (by simp; omega)
    rw [e] at hl
    subst hl
    exact h
  | m + 1, k, l, s, hm, hk, hl, h => by
    have hkn : k < n := by omega
    have hks : k < ops.toList.length := by simp; omega
    have hkt : k < (ops.toList.take n).length := by rw [List.length_take]; omega
    have hd : (ops.toList.take n).drop k = ops.toList[k] :: (ops.toList.take n).drop (k + 1) := by
      rw [List.drop_eq_getElem_cons hkt, List.getElem_take]
    rw [hl, hd] at h
    simp only [awH, hkn, if_true] at h
    obtain ⟨d, v, hq, hdep, h⟩ := h
    obtain ⟨T, h1, h2, h3⟩ := awH_trace2 hn m (k + 1) _ _ (by omega) hkn rfl h
    refine ⟨⟨fun i => if i = k then s else T.sA i, fun i => if i = k then d else T.dA i, fun i => if i = k then v else T.vA i⟩, by simp, ⟨fun i hi hi' => ?_⟩, ?_⟩
    · by_cases e : i = k
      · subst e
        refine ⟨ops.toList[i], by rw [← Array.getElem?_toList, List.getElem?_eq_getElem hks], ?_, ?_, ?_⟩
        · simpa using hq
        · simpa using hdep
        · have : i + 1 ≠ i := by omega
          simp only [this, if_false, if_true]
          exact h1
      · have e2 : i + 1 ≠ k := by omega
        simp only [e, e2, if_false]
        exact h2.step i (by omega) hi'
    · have : n ≠ k := by omega
      simp only [this, if_false]
      exact h3

section
variable {P : Program} {X : Ctx} {c : Cfg} {ops : Array Oper} {n : Nat} {T : Trace P c ops n}

theorem TraceOk.gets (h : TraceOk P c ops n 0 T) (hinj : ∀ i j, i < n → j < n → T.dA i = T.dA j → i = j) : ∀ i, i ≤ n → (∀ j, j < i → (T.sA i).get (T.dA j) = T.vA j) ∧ (∀ t, (∀ j, j < i → T.dA j ≠ t) → (T.sA i).get t = (T.sA 0).get t) ∧
    (T.sA i).D = (T.sA 0).D ∧ (T.sA i).vars.length = (T.sA 0).vars.length := by
  intro i
  induction i with
  | zero => exact fun _ => ⟨fun j hj => by omega, fun _ _ => rfl, rfl, rfl⟩
  | succ i ih =>
    intro hi
    obtain ⟨h1, h2, h3, h4⟩ := ih (by omega)
    obtain ⟨o, _, _, _, e⟩ := h.step i (Nat.zero_le _) (by omega)
    rw [e]
    refine ⟨fun j hj => ?_, fun t ht => ?_, by rw [D_put]; exact h3, by rw [vars_put]; exact h4⟩
    · rw [get_put]
      by_cases ej : j = i
      · subst ej; simp
      · rw [if_neg fun e' => ej (hinj j i (by omega) (by omega) e')]
        exact h1 j (by omega)
    · rw [get_put, if_neg fun e' => ht i (by omega) e'.symm]
      exact h2 t fun j hj => ht j (by omega)

structure Agree (T : Trace P c ops n) (listed : Array Bool) (s : St) : Prop where
  inS : ∀ j, j < n → listed.getD j false = true → s.get (T.dA j) = T.vA j
  out : ∀ t, (∀ j, j < n → listed.getD j false = true → T.dA j ≠ t) → s.get t = (T.sA 0).get t
  D : s.D = (T.sA 0).D
  vl : s.vars.length = (T.sA 0).vars.length

theorem draw_runE {Q : Exit → Act → World → Prop} (hT : TraceOk P c ops n 0 T) (hinj : ∀ i j, i < n → j < n → T.dA i = T.dA j → i = j) (hn : n < ops.size)
    (hseq : seqFull ops n = true) (hback : backB ops = true) (htail : ∀ a w, Rel X c (T.sA n) a w → wpList P ops Q (ops.toList.drop n) a w)
    (hesc : ∀ (m : Nat) (listed : Array Bool) (s : St) (a : Act) (w : World) (i : Nat), ((List.range n).filter fun i => !listed.getD i true).length = m + 1 → HeadInv .any ops n listed → Agree T listed s → Rel X c s a w →
      i ∈ Region.ready .any ops listed → n ≤ i → wpOp P ops Q i (wpAny P .any ops Q (m + (ops.size - n)) (listed.setIfInBounds i true)) a w) :
    ∀ (m : Nat) (listed : Array Bool) (s : St) (a : Act) (w : World), ((List.range n).filter fun i => !listed.getD i true).length = m → HeadInv .any ops n listed → Agree T listed s → Rel X c s a w →
      wpAny P .any ops Q (m + (ops.size - n)) listed a w := by
  intro m
  induction m with
  | zero =>
    intro listed s a w hm inv hag hR
    have hall : ∀ i, i < n → listed.getD i true = true := fun i hi => by
      have := List.eq_nil_of_length_eq_zero hm
      rw [List.filter_eq_nil_iff] at this
      simpa using this i (List.mem_range.2 hi)
    have hlist : listed = (Array.range ops.size).map fun i => decide (i < n) := by
      apply Array.ext
      · simp [inv.size]
      · intro i h1 h2
        have hio : i < ops.size := by rw [← inv.size]; exact h1
        simp only [Array.getElem_map, Array.getElem_range]
        by_cases hin : i < n
        · have := hall i hin
          simp [Array.getD, h1] at this
          simp [hin, this]
        · have := inv.tail i (by omega) hio
          simp [Array.getD, h1] at this
          simp [hin, this]
    have hR' : Rel X c (T.sA n) a w := by
      obtain ⟨g1, g2, g3, g4⟩ := hT.gets hinj n (Nat.le_refl _)
      have hf : ∀ j, j < n → listed.getD j false = true := fun j hj => by
        have := hall j hj
        have hjl : j < listed.size := by rw [inv.size]; omega
        simp [Array.getD, hjl] at this ⊢; exact this
      refine hR.same (fun t => ?_) (g3.trans hag.D.symm) (g4.trans hag.vl.symm)
      by_cases ht : ∃ j, j < n ∧ T.dA j = t
      · obtain ⟨j, hj, rfl⟩ := ht
        rw [g1 j hj, hag.inS j hj (hf j hj)]
      · have ht' : ∀ j, j < n → T.dA j ≠ t := fun j hj e => ht ⟨j, hj, e⟩
        rw [g2 t ht', hag.out t fun j hj _ => ht' j hj]
    have hdl : (ops.toList.drop n).length = ops.size - n := by simp
    have := wpAny_of_seq (P := P) (md := .any) (Q' := Q) (ops.toList.drop n) n listed a w (fun j => by simp [List.getElem?_drop]) (by rw [hdl, hlist]; exact hseq) (htail a w hR')
    rw [hdl] at this
    simpa using this
  | succ m ih =>
    intro listed s a w hm inv hag hR
    -- an unlisted head
    have hex : ∃ i, i < n ∧ listed.getD i true = false := by
      cases hl : (List.range n).filter fun i => !listed.getD i true with
      | nil => rw [hl] at hm; simp at hm
      | cons x xs =>
        have : x ∈ (List.range n).filter fun i => !listed.getD i true := by rw [hl]; simp
        rw [List.mem_filter, List.mem_range] at this
        exact ⟨x, this.1, by simpa using this.2⟩
    rw [show m + 1 + (ops.size - n) = (m + (ops.size - n)) + 1 by omega]
    refine ⟨fun hnil => ?_, fun i hi => ?_⟩
    · exfalso
      -- the least unlisted head is ready
      have least : ∀ k i, i ≤ k → i < n → listed.getD i true = false → False := by
        intro k
        induction k using Nat.strongRecOn with
        | _ k ihk =>
          intro i hik hin hun
          have hio : i < ops.size := by omega
          have hoi : ops[i]? = some ops[i] := Array.getElem?_eq_getElem hio
          have hnr : i ∉ Region.ready .any ops listed := by rw [hnil]; simp
          rw [mem_ready] at hnr
          have : ∃ e ∈ (ops[i]).after, Region.binds .any e = true ∧ listed.getD e.on false = false := by
            by_cases hh : ∃ e ∈ (ops[i]).after, Region.binds .any e = true ∧ listed.getD e.on false = false
            · exact hh
            · exfalso
              refine hnr ⟨hun, _, hoi, fun e he hb => ?_⟩
              by_cases h' : listed.getD e.on false = true
              · exact h'
              · exact absurd ⟨e, he, hb, by simpa using h'⟩ hh
          obtain ⟨e, he, hb, hl⟩ := this
          have hbk := List.all_eq_true.1 hback i (List.mem_range.2 hio)
          simp only [hoi] at hbk
          have hlt := (Array.all_eq_true'.1 hbk) e he
          simp only [hb, Bool.not_true, Bool.false_or, decide_eq_true_eq] at hlt
          exact ihk e.on (by omega) e.on (Nat.le_refl _) (by omega) (getD_in (by rw [inv.size]; omega) hl)
      obtain ⟨i, hi, hun⟩ := hex
      exact least i i (Nat.le_refl _) hi hun
    · rcases Nat.lt_or_ge i n with hin | hge
      rotate_left
      · exact hesc m listed s a w i hm inv hag hR hi hge
      obtain ⟨hun, oi, hoi, hall⟩ := mem_ready.1 hi
      obtain ⟨o, ho, hq, hdep, hst⟩ := hT.step i (Nat.zero_le _) hin
      obtain rfl : o = oi := Option.some.inj (ho.symm.trans hoi)
      obtain ⟨g1, g2, g3, g4⟩ := hT.gets hinj i (Nat.le_of_lt hin)
      have hdst : ∀ j, j < n → (ops[j]?).bind (·.dst) = some (T.dA j) := fun j hj => by
        obtain ⟨o', ho', hq', _, _⟩ := hT.step j (Nat.zero_le _) hj
        rw [ho', Option.bind_some]
        exact (dOk_put hq'.dok).1
      have hunf : listed.getD i false = false := getD_both hun
      have hd0 : s.get (T.dA i) = .undef := by
        rw [hag.out (T.dA i) fun j hj hl e => by
          have := hinj j i hj hin e; subst this; rw [hl] at hunf; cases hunf]
        rw [← g2 (T.dA i) fun j hj e => by have := hinj j i (by omega) hin e; omega]
        have hk := hq.dok
        unfold dOk at hk
        simp only [Bool.and_eq_true] at hk
        exact isU_iff hk.2.2.2.1
      have hq' : Quiet P c ops o s (T.dA i) (T.vA i) := hq.congr (hag.D.trans g3.symm) (hag.vl.trans g4.symm) (fun t ht => by
        by_cases hh : ∃ j, j < n ∧ T.dA j = t
        · obtain ⟨j, hj, rfl⟩ := hh
          have h1 := List.all_eq_true.1 hdep _ ht
          have h2 := List.all_eq_true.1 h1 j (List.mem_range.2 hj)
          rw [hdst j hj] at h2
          simp only [beq_self_eq_true, Bool.not_true, Bool.false_or, Bool.and_eq_true, decide_eq_true_eq] at h2
          obtain ⟨hji, he⟩ := h2
          obtain ⟨e, he, hb⟩ := Array.any_eq_true'.1 he
          simp only [Bool.and_eq_true, beq_iff_eq] at hb
          have hl := hall e he hb.1
          rw [hb.2] at hl
          rw [hag.inS j hj hl, g1 j hji]
        · have hh' : ∀ j, j < n → T.dA j ≠ t := fun j hj e => hh ⟨j, hj, e⟩
          rw [hag.out t fun j hj _ => hh' j hj, g2 t fun j hj => hh' j (by omega)]) hd0
      unfold wpOp
      simp only [ho]
      refine hq'.wp hR fun u w' hR' => ih _ (s.put (T.dA i) (T.vA i)) _ w' ?_ (inv.set hi hin) ?_ hR'
      · have hperm : ((List.range n).filter fun j => !listed.getD j true).length = ((List.range n).filter fun j => !(listed.setIfInBounds i true).getD j true).length + 1 := by
          have key : ∀ (l : List Nat), l.Nodup → i ∈ l → (l.filter fun j => !listed.getD j true).length = (l.filter fun j => !(listed.setIfInBounds i true).getD j true).length + 1 := by
            intro l
            induction l with
            | nil => intro _ h; cases h
            | cons x l ihl =>
              intro hnd hmem
              rw [List.nodup_cons] at hnd
              rw [List.filter_cons, List.filter_cons]
              by_cases hx : x = i
              · subst hx
                have e1 : (listed.setIfInBounds x true).getD x true = true := by
                  rcases Nat.lt_or_ge x listed.size with h | h <;> simp [Array.getD, h]
                simp only [hun, e1, Bool.not_false, Bool.not_true, if_true, List.length_cons]
                have : (l.filter fun j => !listed.getD j true) = l.filter fun j => !(listed.setIfInBounds x true).getD j true := by
                  apply List.filter_congr
                  intro j hj
                  have hne : x ≠ j := fun e => hnd.1 (e ▸ hj)
                  rw [getD_set_ne true hne]
                rw [this]
                simp
              · have hmem' : i ∈ l := by
                  rcases List.mem_cons.1 hmem with h | h
                  · exact absurd h.symm hx
                  · exact h
                rw [getD_set_ne true (Ne.symm hx)]
                have := ihl hnd.2 hmem'
                split
                · simp only [List.length_cons]; omega
                · exact this
          exact key _ List.nodup_range (List.mem_range.2 hin)
        omega
      · refine ⟨fun j hj hl => ?_, fun t ht => ?_, by rw [D_put]; exact hag.D, by rw [vars_put]; exact hag.vl⟩
        · rw [get_put]
          by_cases ej : j = i
          · subst ej; simp
          · rw [if_neg fun e => ej (hinj j i hj hin e)]
            rw [getD_set_ne false (Ne.symm ej)] at hl
            exact hag.inS j hj hl
        · have hii : (listed.setIfInBounds i true).getD i false = true := by
            have hil : i < listed.size := by rw [inv.size]; omega
            simp [Array.getD, hil]
          rw [get_put, if_neg fun e => ht i hin hii e.symm]
          exact hag.out t fun j hj hl => ht j hj (getD_set_true hl)

theorem draw_run {Q : Exit → Act → World → Prop} (hT : TraceOk P c ops n 0 T) (hinj : ∀ i j, i < n → j < n → T.dA i = T.dA j → i = j) (hn : n < ops.size) (hs : Region.sinkB .any ops n = true) (hc : Region.chainB .any ops n = true)
    (hseq : seqFull ops n = true) (hback : backB ops = true) (htail : ∀ a w, Rel X c (T.sA n) a w → wpList P ops Q (ops.toList.drop n) a w) :
    ∀ (m : Nat) (listed : Array Bool) (s : St) (a : Act) (w : World), ((List.range n).filter fun i => !listed.getD i true).length = m → HeadInv .any ops n listed → Agree T listed s → Rel X c s a w →
      wpAny P .any ops Q (m + (ops.size - n)) listed a w :=
  draw_runE hT hinj hn hseq hback htail fun m listed s a w i hm inv hag hR hi hge => by
    exfalso
    cases hl : (List.range n).filter fun i => !listed.getD i true with
    | nil => rw [hl] at hm; simp at hm
    | cons x xs =>
      have : x ∈ (List.range n).filter fun i => !listed.getD i true := by rw [hl]; simp
      rw [List.mem_filter, List.mem_range] at this
      exact tail_waits hs hc hn inv _ x rfl this.1 (by simpa using this.2) i hge hi

theorem late_listed {listed : Array Bool} {j : Nat} (hs : sinkLate ops n j = true) (hn : n < ops.size) (inv : HeadInv .any ops n listed) (hr : n ∈ Region.ready .any ops listed) :
    ∀ (d i : Nat), n - i = d → i < n → i ≠ j → listed.getD i false = true := by
  obtain ⟨_, ot, hot, hall⟩ := mem_ready.1 hr
  intro d
  induction d using Nat.strongRecOn with
  | _ d ih =>
    intro i hd hi hij
    have h1 := List.all_eq_true.1 hs i (List.mem_range.2 hi)
    simp only [Bool.or_eq_true, beq_iff_eq, hij, false_or] at h1
    obtain ⟨t, ht, ht2⟩ := List.any_eq_true.1 h1
    simp only [Bool.and_eq_true, decide_eq_true_eq, Bool.not_eq_true', beq_eq_false_iff_ne] at ht2
    obtain ⟨htj, hit, hw⟩ := ht2
    obtain ⟨o, ho, e, he, hb, hon⟩ := Region.waitsFor_spec hw
    have htn := List.mem_range.1 ht
    by_cases htn' : t = n
    · subst htn'
      have : o = ot := Option.some.inj (ho.symm.trans hot)
      subst this
      rw [← hon]; exact hall e he hb
    · have hl := ih (n - t) (by omega) t rfl (by omega) htj
      have h2 := inv.closed t o ho hl e he hb
      rw [hon] at h2; exact h2

theorem late_run {Q : Exit → Act → World → Prop} {j : Nat} (hT : TraceOk P c ops n 0 T) (hinj : ∀ i j, i < n → j < n → T.dA i = T.dA j → i = j) (hn : n < ops.size) (hj : j < n) (hs : sinkLate ops n j = true) (hc : Region.chainB .any ops n = true)
    (hr1 : Region.ready .any ops ((Array.range ops.size).map fun i => decide (i ≤ n ∧ i ≠ j)) = [j]) (hseq2 : Region.seqB .any ops (ops.size - (n + 1)) (n + 1) (upToB ops (n + 1)) = true)
    (hB : ∃ on oj, ops[n]? = some on ∧ ops[j]? = some oj ∧ ∀ a w, Rel X c ((T.sA n).put (T.dA j) .undef) a w → wpList P ops Q (on :: oj :: ops.toList.drop (n + 1)) a w)
    (m : Nat) (listed : Array Bool) (s : St) (a : Act) (w : World) (i : Nat) (hm : ((List.range n).filter fun i => !listed.getD i true).length = m + 1) (inv : HeadInv .any ops n listed) (hag : Agree T listed s) (hR : Rel X c s a w)
    (hi : i ∈ Region.ready .any ops listed) (hge : n ≤ i) : wpOp P ops Q i (wpAny P .any ops Q (m + (ops.size - n)) (listed.setIfInBounds i true)) a w := by
  obtain ⟨hun, ot, hot, hall⟩ := mem_ready.1 hi
  have htlt : i < ops.size := (Array.getElem?_eq_some_iff.1 hot).1
  have hin : i = n := by
    rcases Nat.lt_or_ge n i with h | h
    · exfalso
      have h1 := List.all_eq_true.1 hc i (List.mem_range.2 htlt)
      simp only [Bool.or_eq_true, decide_eq_true_eq] at h1
      rcases h1 with h1 | h1
      · omega
      · obtain ⟨o', ho', e, he, hb, hon⟩ := Region.waitsFor_spec h1
        have : o' = ot := Option.some.inj (ho'.symm.trans hot)
        subst this
        have h2 := hall e he hb
        rw [hon, getD_both (inv.tail (i - 1) (by omega) (by omega))] at h2
        cases h2
    · omega
  subst hin
  have hl := late_listed hs hn inv hi
  have hlf : ∀ k, k < i → k ≠ j → listed.getD k false = true := fun k hk hkj => hl _ k rfl hk hkj
  have htf : ∀ k, listed.getD k false = true → listed.getD k true = true := fun k h => by
    cases h' : listed.getD k true with
    | true => rfl
    | false => rw [getD_both h'] at h; cases h
  have hju : listed.getD j true = false := by
    cases hx : (List.range i).filter fun k => !listed.getD k true with
    | nil => rw [hx] at hm; simp at hm
    | cons x xs =>
      have : x ∈ (List.range i).filter fun k => !listed.getD k true := by rw [hx]; simp
      rw [List.mem_filter, List.mem_range] at this
      have h2 : listed.getD x true = false := by simpa using this.2
      by_cases e : x = j
      · rw [← e]; exact h2
      · rw [htf x (hlf x this.1 e)] at h2; cases h2
  have hm0 : m = 0 := by
    have hle : ((List.range i).filter fun k => !listed.getD k true).length ≤ ([j] : List Nat).length := by
      have hnd : ((List.range i).filter fun k => !listed.getD k true).Nodup := List.nodup_range.filter _
      have hsub : ∀ x ∈ (List.range i).filter (fun k => !listed.getD k true), x = j := fun x hx => by
        rw [List.mem_filter, List.mem_range] at hx
        by_cases e : x = j
        · exact e
        · have h2 : listed.getD x true = false := by simpa using hx.2
          rw [htf x (hlf x hx.1 e)] at h2; cases h2
      generalize (List.range i).filter (fun k => !listed.getD k true) = l at hnd hsub
      match l with
      | [] => simp
      | [x] => simp
      | x :: y :: r =>
        exfalso
        have e1 := hsub x (by simp)
        have e2 := hsub y (by simp)
        subst e1
        rw [List.nodup_cons] at hnd
        exact hnd.1 (by simp [e2])
    simp only [List.length_cons, List.length_nil] at hle
    omega
  subst hm0
  have hlist : listed.setIfInBounds i true = (Array.range ops.size).map fun k => decide (k ≤ i ∧ k ≠ j) := by
    apply Array.ext
    · simp [inv.size]
    · intro k h1 h2
      have hko : k < ops.size := by simpa [inv.size] using h1
      have hkl : k < listed.size := by rw [inv.size]; exact hko
      simp only [Array.getElem_map, Array.getElem_range]
      by_cases hki : i = k
      · subst hki
        have : i ≠ j := by omega
        simp [this]
      · have e0 : (listed.setIfInBounds i true)[k] = listed[k] := Array.getElem_setIfInBounds_ne hkl hki
        rw [e0]
        rcases Nat.lt_or_ge k i with hlt | hge'
        · by_cases e : k = j
          · subst e
            have : listed[k] = false := by simpa [Array.getD, hkl] using hju
            rw [this]; simp
          · have := hlf k hlt e
            simp only [Array.getD, hkl, dif_pos] at this
            simp only [e, ne_eq, not_false_eq_true, and_true, Nat.le_of_lt hlt, decide_true]
            exact this
        · have := inv.tail k (by omega) hko
          simp only [Array.getD, hkl, dif_pos] at this
          have hnle : ¬ k ≤ i := by omega
          simp only [hnle, false_and, decide_false]
          exact this
  obtain ⟨on, oj, hon, hoj, hB⟩ := hB
  have e1 : on = ot := Option.some.inj (hon.symm.trans hot)
  subst e1
  obtain ⟨g1, g2, g3, g4⟩ := hT.gets hinj i (Nat.le_refl _)
  obtain ⟨q1, q2, q3, q4⟩ := hT.gets hinj j (Nat.le_of_lt hj)
  have hjf : listed.getD j false = false := getD_both hju
  have hR' : Rel X c ((T.sA i).put (T.dA j) .undef) a w := by
    refine hR.same (fun t => ?_) (by rw [D_put]; exact g3.trans hag.D.symm) (by rw [vars_put]; exact g4.trans hag.vl.symm)
    rw [get_put]
    by_cases ht : t = T.dA j
    · rw [if_pos ht, ht, hag.out (T.dA j) fun k hk hkl e => by
        have := hinj k j hk hj e; subst this; rw [hkl] at hjf; cases hjf]
      rw [← q2 (T.dA j) fun k hk e => by have := hinj k j (by omega) hj e; omega]
      obtain ⟨o, _, hq, _, _⟩ := hT.step j (Nat.zero_le _) hj
      have hk := hq.dok
      unfold dOk at hk
      simp only [Bool.and_eq_true] at hk
      exact (isU_iff hk.2.2.2.1).symm
    · rw [if_neg ht]
      by_cases hx : ∃ k, k < i ∧ T.dA k = t
      · obtain ⟨k, hk, rfl⟩ := hx
        have hkj : k ≠ j := fun e => ht (by rw [e])
        rw [g1 k hk, hag.inS k hk (hlf k hk hkj)]
      · have hx' : ∀ k, k < i → T.dA k ≠ t := fun k hk e => hx ⟨k, hk, e⟩
        rw [g2 t hx', hag.out t fun k hk _ => hx' k hk]
  have hW := hB a w hR'
  have hW2 : wpOp P ops Q i (wpList P ops Q (oj :: ops.toList.drop (i + 1))) a w := by
    unfold wpOp; simp only [hot]; exact hW
  rw [hlist]
  refine wpOp_mono (fun a' w' h' => ?_) hW2
  rw [show 0 + (ops.size - i) = (ops.size - (i + 1)) + 1 by omega]
  refine ⟨fun h0 => (by rw [hr1] at h0; cases h0), fun k hk => ?_⟩
  rw [hr1] at hk
  obtain rfl : k = j := by simpa using hk
  have h2 : wpOp P ops Q k (wpList P ops Q (ops.toList.drop (i + 1))) a' w' := by
    unfold wpOp; simp only [hoj]; exact h'
  refine wpOp_mono (fun a2 w2 h3 => ?_) h2
  have hlist2 : ((Array.range ops.size).map fun x => decide (x ≤ i ∧ x ≠ k)).setIfInBounds k true = upToB ops (i + 1) := by
    unfold upToB
    apply Array.ext
    · simp
    · intro x h1 h2
      simp only [Array.getElem_map, Array.getElem_range]
      by_cases e : k = x
      · subst e
        have : k < i + 1 := by omega
        simp [this]
      · have e' : x ≠ k := fun h => e h.symm
        have hx : x < ((Array.range ops.size).map fun x => decide (x ≤ i ∧ x ≠ k)).size := by simpa using h1
        rw [Array.getElem_setIfInBounds_ne hx e]
        simp [e', Nat.lt_succ_iff]
  rw [hlist2]
  have hdl : (ops.toList.drop (i + 1)).length = ops.size - (i + 1) := by simp
  have := wpAny_of_seq (P := P) (md := .any) (Q' := Q) (ops.toList.drop (i + 1)) (i + 1) (upToB ops (i + 1)) a2 w2 (fun x => by simp [List.getElem?_drop]) (by rw [hdl]; exact hseq2) h3
  rw [hdl] at this
  exact this

theorem trace_inj (hT : TraceOk P c ops n 0 T) (hn : n ≤ ops.size) (hnd : ((ops.toList.take n).filterMap (·.dst)).Nodup) : ∀ i j, i < n → j < n → T.dA i = T.dA j → i = j := by
  have hdst : ∀ j, j < n → (ops[j]?).bind (·.dst) = some (T.dA j) := fun j hj => by
    obtain ⟨o', ho', hq', _, _⟩ := hT.step j (Nat.zero_le _) hj
    rw [ho', Option.bind_some]
    exact (dOk_put hq'.dok).1
  have hlist : (ops.toList.take n).filterMap (·.dst) = (List.range n).map T.dA := by
    apply List.ext_getElem?
    have hall : ∀ (m : Nat), m ≤ n → (ops.toList.take m).filterMap (·.dst) = (List.range m).map T.dA := by
      intro m
      induction m with
      | zero => intro _; simp
      | succ m ih =>
        intro hm
        have hml : m < ops.toList.length := by simp; omega
        rw [List.take_succ_eq_append_getElem hml, List.filterMap_append, ih (by omega), List.range_succ, List.map_append]
        have := hdst m (by omega)
        rw [← Array.getElem?_toList, List.getElem?_eq_getElem hml, Option.bind_some] at this
        rw [List.filterMap_cons_some this]
        rfl
    intro i
    rw [hall n (Nat.le_refl _)]
  rw [hlist] at hnd
  intro i j hi hj e
  have := List.pairwise_iff_getElem.1 (List.nodup_iff_pairwise_ne.1 hnd)
  rcases Nat.lt_trichotomy i j with h | h | h
  · exact absurd (by rw [List.getElem_map, List.getElem_map, List.getElem_range, List.getElem_range]; exact e) (this i j (by simpa using hi) (by simpa using hj) h)
  · exact h
  · exact absurd (by rw [List.getElem_map, List.getElem_map, List.getElem_range, List.getElem_range]; exact e.symm) (this j i (by simpa using hj) (by simpa using hi) h)

theorem awDraw_ok {K : St → Prop} {Q : Exit → Act → World → Prop} {id : Nat} {s : St} {a : Act} {w : World} (hK : ∀ s a w, Rel X c s a w → K s → Q .normal a w) (h : Rel X c s a w) (hs : awDraw P c ops K s) : (Code.region id ops true).wp P Q a w := by
  obtain ⟨hm, hs⟩ := hs
  have hdrew : Rel X c s a { w with drawn := w.drawn + 1 } := by
    obtain ⟨hN, hp, F, bs, fr, h1, h2, hR⟩ := h
    exact ⟨hN, hp, F, bs, fr, h1, h2, hR.world (Nat.le_refl _) (fun _ _ _ => rfl) hR.fnd (fun y hy => ⟨.inl hy, (hR.fown y hy).1⟩) rfl rfl rfl⟩
  refine wp_region_any hm ?_
  have inv0 : ∀ n, HeadInv .any ops n (Array.replicate ops.size false) := fun n =>
    ⟨by simp, fun j oj _ hl => (by rw [getD_replicate_false] at hl; cases hl), fun t _ ht => getD_in (by simpa using ht) (getD_replicate_false _ _)⟩
  have hcount : ∀ n, n < ops.size → ((List.range n).filter fun i => !(Array.replicate ops.size false).getD i true).length = n := by
    intro n hn
    rw [List.filter_eq_self.2, List.length_range]
    intro i hi
    rw [List.mem_range] at hi
    have hio : i < ops.size := by omega
    simp [Array.getD, hio]
  rcases hs with ⟨n, hB, hH⟩ | ⟨n, j, hB, hH⟩
  · simp only [drawB, Bool.and_eq_true, decide_eq_true_eq] at hB
    obtain ⟨hn, hsk, hch, hsq, hbk, hnd⟩ := hB
    obtain ⟨T, hT0, hT, htail⟩ := awH_trace (Nat.le_of_lt hn) n 0 _ s (by omega) (Nat.zero_le _) (by simp) hH
    have hag : Agree T (Array.replicate ops.size false) s := ⟨fun j _ hl => (by rw [getD_replicate_false] at hl; cases hl), fun t _ => by rw [hT0], by rw [hT0], by rw [hT0]⟩
    have := draw_run (Q := Q) hT (trace_inj hT (Nat.le_of_lt hn) hnd) hn hsk hch hsq hbk (fun a w h' => awOps_ok hK _ _ a w h' htail) n _ s a _ (hcount n hn) (inv0 n) hag hdrew
    rw [show n + (ops.size - n) = ops.size by omega] at this
    exact this
  · simp only [lateB, Bool.and_eq_true, decide_eq_true_eq] at hB
    obtain ⟨hn, hj, hsk, hch, hsq, hbk, hnd, hr1, hsq2⟩ := hB
    obtain ⟨T, hT0, hT, htail, on, oj, dj, hon, hoj, hdj, htail2⟩ := awH_trace2 (Nat.le_of_lt hn) n 0 _ s (by omega) (Nat.zero_le _) (by simp) hH
    have hag : Agree T (Array.replicate ops.size false) s := ⟨fun j _ hl => (by rw [getD_replicate_false] at hl; cases hl), fun t _ => by rw [hT0], by rw [hT0], by rw [hT0]⟩
    have hinj := trace_inj hT (Nat.le_of_lt hn) hnd
    have hdd : dj = T.dA j := by
      obtain ⟨o', ho', hq', _, _⟩ := hT.step j (Nat.zero_le _) hj
      have e := Option.some.inj (hoj.symm.trans ho')
      subst e
      have := (dOk_put hq'.dok).1
      rw [hdj] at this
      exact Option.some.inj this
    subst hdd
    have := draw_runE (Q := Q) hT hinj hn hsq hbk (fun a w h' => awOps_ok hK _ _ a w h' htail)
      (late_run hT hinj hn hj hsk hch hr1 hsq2 ⟨on, oj, hon, hoj, fun a w h' => awOps_ok hK _ _ a w h' htail2⟩) n _ s a _ (hcount n hn) (inv0 n) hag hdrew
    rw [show n + (ops.size - n) = ops.size by omega] at this
    exact this
theorem awOps_mono {K K' : St → Prop} (hK : ∀ s, K s → K' s) : ∀ (l : List Oper) (s : St), awOps P c ops l K s → awOps P c ops l K' s
  | [], s, h => hK s h
  | o :: rest, s, h => by
    have ih := awOps_mono hK rest
    simp only [awOps] at h ⊢
    split at h
    · split at h
      · obtain ⟨s', h1, h2⟩ := h; exact ⟨s', h1, ih _ h2⟩
      · split at h
        · exact ih _ h
        · exact h
    · split at h
      · exact ih _ h
      · exact h
    · exact h
theorem awH_mono {K K' : St → Prop} (hK : ∀ s, K s → K' s) : ∀ (l : List Oper) (k : Nat) (s : St), awH P c ops n K k l s → awH P c ops n K' k l s
  | [], _, s, h => hK s h
  | o :: rest, k, s, h => by
    simp only [awH] at h ⊢
    split at h
    · rename_i hk
      rw [if_pos hk]
      obtain ⟨d, v, h1, h2, h3⟩ := h
      exact ⟨d, v, h1, h2, awH_mono hK rest _ _ h3⟩
    · rename_i hk
      rw [if_neg hk]
      exact awOps_mono hK _ _ h
theorem awDraw_mono {K K' : St → Prop} {s : St} (hK : ∀ s, K s → K' s) (h : awDraw P c ops K s) : awDraw P c ops K' s := by
  obtain ⟨hm, ⟨n, hB, hH⟩ | ⟨n, j, hB, hH⟩⟩ := h
  · exact ⟨hm, .inl ⟨n, hB, awH_mono hK _ _ _ hH⟩⟩
  · exact ⟨hm, .inr ⟨n, j, hB, awH_mono (fun s h => ⟨awOps_mono hK _ _ h.1, by obtain ⟨on, oj, dj, h1, h2, h3, h4⟩ := h.2; exact ⟨on, oj, dj, h1, h2, h3, awOps_mono hK _ _ h4⟩⟩) _ _ _ hH⟩⟩
end
end Go.AM
