/- Part. -/
import Derived.Test.YtfhhgjbcenhdeaaGreatDoorS7
set_option linter.all false
set_option maxRecDepth 100000
set_option maxHeartbeats 0
namespace Go.FM
open Go
set_option linter.defProp false
def DEFO := cj @Go.FM.a3r (cj @Go.FM.Fs.init.eq_def (cj @Go.FM.Fs.get.eq_def (cj @Go.FM.Fs.put.eq_def (cj @Go.FM.Fs.clean.eq_def (cj @Go.FM.lk.eq_1 (cj @Go.FM.lk.eq_2 (cj @Go.FM.upd.eq_def (cj @Go.FM.ext.eq_def (cj @Go.FM.noH.eq_def (cj @Go.FM.cv1.eq_def (cj @Go.FM.cv.eq_def (cj @Go.FM.rv.eq_def (cj @Go.FM.FV.isU.eq_def (cj @Go.FM.FV.cellV.eq_def (cj @Go.FM.FV.cellsL.eq_def (cj @Go.FM.FV.storable.eq_def (cj @Go.FM.b4s.eq_def (cj @Go.FM.b7s.eq_def (cj @Go.FM.b7r.eq_def (cj @Go.FM.fLen.eq_def (cj @Go.FM.fBin.eq_def (cj @Go.FM.fUn.eq_def (cj @Go.FM.c6s.eq_def (cj @Go.FM.b8n.eq_def (cj @Go.FM.b7q.eq_def (cj @Go.FM.a7c.eq_1 (cj @Go.FM.a7c.eq_2 (cj @Go.FM.b2u.eq_1 (cj @Go.FM.b2u.eq_2 (cj @Go.FM.pv.eq_def (cj @Go.FM.pv1.eq_def (cj @Go.FM.pv2.eq_def (cj @Go.FM.wv.eq_def (cj @Go.FM.b4b.eq_def (cj @Go.FM.wBox.eq_def (cj @Go.FM.a6u.eq_def (cj @Go.FM.a5u.eq_def (cj @Go.FM.b4a.eq_def (cj @Go.FM.b1y.eq_def (cj @Go.FM.b0z.eq_def (cj @Go.FM.wApp.eq_def (cj @Go.FM.srcA.eq_def (cj @Go.FM.a5c.eq_1 (cj @Go.FM.a5c.eq_2 (cj @Go.FM.upds.eq_def (cj @List.foldl_cons.{0,0} (cj @List.foldl_nil.{0,0} (cj @Go.FM.b2w.eq_def (cj @Go.FM.fNil.eq_def (cj @Go.FM.fUn2.eq_def (cj @Go.FM.c6t.eq_def (cj @Go.FM.fCmp.eq_def (cj @Go.FM.c4i.eq_def (cj @Go.FM.eqK.eq_1 (cj @Go.FM.eqK.eq_2 (cj @Go.FM.a2l.eq_1 (cj @Go.FM.a2l.eq_2 (cj @Go.FM.a2l.eq_3 (cj @Go.FM.eqV.eq_1 (cj @Go.FM.eqV.eq_2 (cj @Go.FM.eqV.eq_3 (cj @Go.FM.eqV.eq_4 (cj @Go.FM.FV.kd.eq_def (cj @Go.FM.c6u.eq_def (cj @Go.FM.nilV.eq_def (cj @Go.FM.putD.eq_def (cj @Go.FM.b1p.eq_def (cj @Go.FM.a0l.eq_def (cj @Go.FM.a0x.eq_def (cj @Go.FM.b0u.eq_1 (cj @Go.FM.b0u.eq_2 (cj @Go.FM.a2t.eq_def (cj @Go.FM.b8q.eq_def (cj @Go.FM.resV.eq_def (cj @Go.FM.resL.eq_1 (cj @Go.FM.resL.eq_2 (cj @Go.FM.a0p.eq_def (cj @Go.FM.StK.eq_def (cj @Go.FM.b4x (cj @Go.FM.b1x (cj @Go.FM.e8t (cj @Go.FM.e8u (cj @Go.FM.d1w (cj @Go.FM.d1x (cj @Go.FM.b8p.eq_def (cj @Go.FM.HG_t (cj @Go.FM.HG_f (cj @Go.FM.e8r (cj @Go.FM.e8s (cj @Go.FM.nl.eq_1 (cj @Go.FM.nl.eq_2 (cj @Go.FM.nl.eq_3 (cj @Go.FM.nl.eq_4 (cj @Go.FM.nl.eq_5 (cj @Go.FM.nl.eq_6 (cj @Go.FM.nl.eq_7 (cj @Go.FM.nl.eq_8 (cj @Go.FM.nl.eq_9 (cj @Go.FM.nl.eq_10 (cj @Go.FM.nl.eq_11 (cj @Go.FM.nl.eq_12 (cj @Go.FM.nl.eq_13 (cj @Go.FM.nl.eq_14 (cj @Go.FM.nl.eq_15 (cj @Go.FM.nl.eq_16 (cj @Go.FM.nl.eq_17 (cj @Go.FM.nls.eq_1 (cj @Go.FM.nls.eq_2 (cj @Go.FM.nlss.eq_1 (cj @Go.FM.nlss.eq_2 (cj @Go.FM.frz.eq_1 (cj @Go.FM.frz.eq_2 (cj @Go.FM.frz.eq_3 (cj @Go.FM.frz.eq_4 (cj @Go.FM.frz.eq_5 (cj @Go.FM.frzs.eq_1 (cj @Go.FM.frzs.eq_2 (cj @Go.FM.frzs.eq_3 (cj @Go.FM.frzR.eq_1 (cj @Go.FM.frzR.eq_2 (cj @Go.FM.frzR.eq_3 (cj @Go.FM.asR.eq_1 (cj @Go.FM.asR.eq_2 (cj @Go.FM.asR.eq_3 (cj @Go.FM.asR.eq_4 (cj @Go.FM.asRs.eq_1 (cj @Go.FM.asRs.eq_2 (cj @Go.FM.Fend.eq_def (cj @Go.FM.d1q (cj @Go.FM.b5o (cj @Go.FM.b2s (cj @Go.FM.frzN.eq_def (cj @Go.FM.nf.eq_1 (cj @Go.FM.nf.eq_2 (cj @Go.FM.nf.eq_3 (cj @Go.FM.nf.eq_4 (cj @Go.FM.nf.eq_5 (cj @Go.FM.nf.eq_6 (cj @Go.FM.nf.eq_7 (cj @Go.FM.nf.eq_8 (cj @Go.FM.nf.eq_9 (cj @Go.FM.nf.eq_10 (cj @Go.FM.nf.eq_11 (cj @Go.FM.nf.eq_12 (cj @Go.FM.nf.eq_13 (cj @Go.FM.nf.eq_14 (cj @Go.FM.nf.eq_15 (cj @Go.FM.nf.eq_16 (cj @Go.FM.nf.eq_17 (cj @Go.FM.nfs.eq_1 (cj @Go.FM.nfs.eq_2 (cj @Go.FM.b7e (cj @Go.FM.b1m (cj @Go.FM.a8h.eq_def (@Go.FM.b3t.eq_def)))))))))))))))))))))))))))))))))))))))))))))))))))))))))))))))))))))))))))))))))))))))))))))))))))))))))))))))))))))))))))))))))))))))))))))))))))))))))))
def SIMF := cj @Go.FM.b9c (cj @Go.FM.c9o (cj @Go.FM.d7n (cj @Go.FM.a1j (cj @Go.FM.nlss.eq_1 (cj @Go.FM.nlss.eq_2 (cj @Go.FM.nls.eq_1 (cj @Go.FM.nls.eq_2 (cj @Go.FM.nl.eq_1 (cj @Go.FM.nl.eq_2 (cj @Go.FM.nl.eq_3 (cj @Go.FM.nl.eq_4 (cj @Go.FM.nl.eq_5 (cj @Go.FM.nl.eq_6 (cj @Go.FM.nl.eq_7 (cj @Go.FM.nl.eq_8 (cj @Go.FM.nl.eq_9 (cj @Go.FM.nl.eq_10 (cj @Go.FM.nl.eq_11 (cj @Go.FM.nl.eq_12 (cj @Go.FM.nl.eq_13 (cj @Go.FM.nl.eq_14 (cj @Go.FM.nl.eq_15 (cj @Go.FM.nl.eq_16 (cj @Go.FM.nl.eq_17 (cj @Go.FM.a7m.eq_1 (cj @Go.FM.a7m.eq_2 (cj @Go.FM.a7m.eq_3 (cj @Go.FM.simV.eq_def (cj @Go.FM.simT.eq_1 (cj @Go.FM.simT.eq_2 (cj @Go.FM.simH.eq_1 (cj @Go.FM.simH.eq_2 (cj @Go.FM.simO.eq_def (cj @Go.FM.renO.eq_def (cj @Go.FM.innO.eq_def (cj @Go.FM.ren.eq_1 (cj @Go.FM.ren.eq_2 (cj @Go.FM.ren.eq_3 (cj @Go.FM.ren.eq_4 (cj @Go.FM.ren.eq_5 (cj @Go.FM.ren.eq_6 (cj @Go.FM.ren.eq_7 (cj @Go.FM.inn.eq_1 (cj @Go.FM.inn.eq_2 (cj @Go.FM.inn.eq_3 (cj @Go.FM.inn.eq_4 (cj @Go.FM.inn.eq_5 (cj @Go.FM.inn.eq_6 (cj @Go.FM.inn.eq_7 (cj @Go.FM.inn.eq_8 (cj @Go.FM.inn.eq_9 (cj @Go.FM.rens.eq_1 (cj @Go.FM.rens.eq_2 (cj @Go.FM.inns.eq_1 (cj @Go.FM.inns.eq_2 (cj @Go.FM.renss.eq_1 (cj @Go.FM.renss.eq_2 (cj @Go.FM.a3z.eq_1 (cj @Go.FM.a3z.eq_2 (cj @Go.FM.rene.eq_1 (cj @Go.FM.rene.eq_2 (cj @Go.FM.inne.eq_1 (cj @Go.FM.inne.eq_2 (cj @Go.FM.bk.eq_1 (cj @Go.FM.bk.eq_2 (cj @Go.FM.hpL.eq_1 (cj @Go.FM.hpL.eq_2 (cj @Go.FM.upd.eq_def (cj @Go.FM.noH.eq_def (cj @Go.FM.ext.eq_def (cj @Go.FM.lk.eq_1 (cj @Go.FM.lk.eq_2 (cj @Go.FM.a6y (cj @Go.FM.b0o (cj @Go.FM.a9j (@Go.FM.a8i))))))))))))))))))))))))))))))))))))))))))))))))))))))))))))))))))))))))))))
end Go.FM
namespace Go.FM
open Go
variable {As : List Heap} {H0 : Heap} {k n : Nat} {rs : List Loc}
section
variable {P : Program} {c : Cfg} {Q : Exit -> Fs -> Prop} {s : Fs} {K : Fs -> Prop} {ops : Array Oper} {o : Oper} {rest : List Oper}
theorem f7v (Hn : Heap) (hk : k < n) (hd : b1q ops n k o = true) (hneed : ∀ l ob, Hn l = some ob -> H0 l = some ob \/ (l ∉ rs /\ ∃ j Aj, As[j]? = some Aj /\ a2z o j = true /\ Aj l = some ob))
 (h : HG P c ops n K H0 rs k o rest s As Hn (a0x ops o s)) : awH P c ops n K H0 rs k (o :: rest) s As := by
 simp only [awH, hk, if_true]
 unfold HG HDo HCl at h
 have hgs : a0x ops o { s with H := Hn } = a0x ops o s := rfl
 have hcs : a0l { s with H := Hn } o = a0l s o := rfl
 cases hg : a0x ops o s with
 | none => rw [hg] at h; exact h.elim
 | some b =>
   rw [hg] at h
   cases b
   . simp only [HNx] at h
     cases hdst : o.dst with
     | none => rw [hdst] at h; exact h.elim
     | some d =>
       rw [hdst] at h
       obtain ⟨h1, h2, h3⟩ := h
       exact ⟨d, _, noH, Hn, _, (c2c (hgs.trans hg) hdst h1).two, hd, fun l hl => .inr (h2 l hl), fun _ h => h.elim, fun l ob hl => (hneed l ob hl).imp_right .inr, h3⟩
   . simp only at h
     cases hc : a0l s o with
     | none =>
       rw [hc] at h
       simp only [HNx] at h
       split at h
       . rename_i v A d hm hdst
         obtain ⟨h1, h2, h3⟩ := h
         exact ⟨d, v, A, Hn, _, (b0r (hgs.trans hg) (hcs.trans hc) hdst h1 hm).two, hd, fun l hl => .inr (h2 l hl), fun _ h => h.elim, fun l ob hl => (hneed l ob hl).imp_right .inr, h3⟩
       . exact h.elim
     | some x =>
       obtain ⟨f, A⟩ := x
       rw [hc] at h
       simp only at h
       obtain ⟨hf, v, B, hfc, h⟩ := h
       simp only [HNx] at h
       cases hdst : o.dst with
       | none => rw [hdst] at h; exact h.elim
       | some d =>
         rw [hdst] at h
         obtain ⟨h1, h2, h3⟩ := h
         exact ⟨d, v, B, Hn, _, (b8b (hgs.trans hg) (hcs.trans hc) hf hdst h1 hfc).two, hd, fun l hl => .inr (h2 l hl), fun _ h => h.elim, fun l ob hl => (hneed l ob hl).imp_right .inr, h3⟩
theorem f7w (j : Nat) (l0 : Loc) (ob0 : FO) (hk : k < n) (hd : b1q ops n k o = true) (hj : As[j]? = some (upd noH l0 ob0)) (hw : a2z o j = true) (hl : l0 ∉ rs)
 (h : HG P c ops n K H0 rs k o rest s As (upd H0 l0 ob0) (a0x ops o s)) : awH P c ops n K H0 rs k (o :: rest) s As :=
 f7v (upd H0 l0 ob0) hk hd (fun l ob hl' => by
  unfold upd at hl'
  split at hl'
  . rename_i e
    subst e
    exact .inr ⟨hl, j, _, hj, hw, by rw [<- hl']; simp [upd]⟩
  . exact .inl hl') h
theorem hclH {Hn : Heap} {f : FuncId} {b : Bool} {A : List FV} (h : HCl P c ops n K H0 rs k o rest s As Hn f b A) : HCl P c ops n K H0 rs k o rest s As Hn f b A := h
theorem hfc0 {Hn : Heap} {f : FuncId} {A : List FV} {v : FV} (hp : ∀ H2, HSub Hn H2 -> FC P c.G f A H2 v H2) (h : HNx P c ops n K H0 rs k o rest s As (some (v, noH))) : HCl P c ops n K H0 rs k o rest s As Hn f true A :=
 ⟨rfl, v, noH, fun H2 hs _ => by rw [a3r]; exact hp H2 hs, h⟩
end
end Go.FM
