/- Part. -/
import Derived.WalkKit
set_option linter.all false
set_option maxRecDepth 100000
set_option maxHeartbeats 0
section
variable {A B P : Prop}
theorem cj {a b : Prop} (x : a) (y : b) : a ∧ b := ⟨x, y⟩
def A0a := @Nat.le_trans
def A0b := @List.length_append
def A0c := @List.take_length
def A0d := @List.mem_singleton
def A0e := @List.ext_getElem
def A0f := @List.getElem?_append_left
def A0g := @List.getElem_of_mem
def A0h := @List.length_set
def A0i := @Prod.mk.injEq
def A0j := @List.length_take
def A0k := @List.getElem?_append_right
def A0l := @List.flatten_cons
def A0m := @List.mem_cons
def A0n := @List.take_succ_eq_append_getElem
def A0o := @List.mem_append
def A0p := @List.getElem?_take
def A0q := @List.getElem?_eq_some_iff
def A0r := @Nat.lt_or_ge
def A0s := @Option.map_some
def A0t := @List.mem_of_mem_take
def A0u := @List.length_replicate
def A0v := @List.take_zero
def A0w := @Nat.min_eq_left
def A0x := @Option.ne_none_iff_exists'
def A0y := @List.take_add_one
def A0z := @List.foldl_append
def A1a := @List.length_cons
def A1b := @List.mem_of_getElem?
def A1c := @List.take_take
def A1d := @Nat.add_mul
def A1e := @List.getElem_set
def A1f := @List.map_congr_left
def A1g := @Option.isSome_iff_exists
def A1h := @Option.bind_eq_some_iff
def A1i := @Option.isNone_iff_eq_none
def A1j := @List.getElem?_map
def A1k := @BitVec.getLsbD_and
def A1l := @List.length_map
def A1m := @List.map_cons
def A1n := @List.mem_of_mem_drop
def A1o := @List.mem_append_left
def A1p := @List.range_succ
def A1q := @List.cons.injEq
def A1r := @List.drop_eq_getElem_cons
def A1s := @List.map_append
def A1t := @List.mem_map
def A1u := @Option.isNone_none
def A1v := @Nat.eq_zero_or_pos
def A1w := @Int.le_sub_one_iff
def A1x := @List.length_singleton
def A1y := @List.length_drop
def A1z := @Nat.mul_le_mul_right
def A2a := @Nat.zero_le
def A2b := @Nat.lt_of_lt_of_le
def A2c := @List.getElem?_drop
def A2d := @Nat.min_self
def A2e := @Nat.le_of_lt
def A2f := @List.mem_append_right
def A2g := @Bool.not_eq_true
def A2h := @List.foldl_nil
def A2i := @List.foldl_cons
def A2j := @Option.bind_some
def A2k := @List.mem_range
def A2l := @BitVec.getLsbD_twoPow
def A2m := @Array.getElem?_toList
def A2n := @Bool.eq_iff_iff
def A2o := @List.getElem?_replicate
def A2p := @List.mem_or_eq_of_mem_set
def A2q := @List.set_getElem_self
def A2r := @List.eq_of_mem_replicate
def A2s := @List.getElem_map
def A2t := @List.mem_cons_of_mem
def A2u := @List.nil_append
def A2v := @Bool.or_eq_true
def A2w := @List.getElem_modify
def A2x := @Array.getD_eq_getD_getElem?
def A2y := @List.map_take
def A2z := @List.take_append_drop
def A3a := @BitVec.eq_of_toNat_eq
def A3b := @Nat.one_mul
def A3c := @Bool.and_false
def A3d := @List.pairwise_cons
def A3e := @Nat.lt_trichotomy
def A3f := @List.getElem?_set
def A3g := @List.append_assoc
def A3h := @Nat.add_zero
def A3i := @List.all_cons
def A3j := @Bool.and_self
def A3k := @List.flatten_append
def A3l := @Array.length_toList
def A3m := @List.not_mem_nil
def A3n := @List.mapIdx_cons
def A3o := @Bool.false_and
def A3p := @Nat.add_sub_cancel
def A3q := @List.zip_cons_cons
def A3r := @List.mem_cons_self
def A3s := @List.mapIdx_append
def A3t := @List.getElem_range
def A3u := @Nat.zero_add
def A3v := @Nat.add_comm
def A3w := @List.length_nil
def A3x := @List.append_nil
def A3y := @List.length_filter_le
def A3z := @List.take_length_add_append
def A4a := @Bool.true_and
def A4b := @List.getElem_drop
def A4c := @List.ext_getElem?
def A4d := @List.getElem?_set_ne
def A4e := @Nat.le_of_not_lt
def A4f := @Ne.symm
def A4g := @List.mergeSort_perm
def A4h := @List.getElem?_range
def A4i := @List.filterMap_cons
def A4j := @Array.toList_append
def A4k := @Nat.zero_mul
def A4l := @Nat.le_zero
def A4m := @Nat.add_assoc
def A4n := @List.mem_filter
def A4o := @List.count_cons
def A4p := @List.mem_flatten
def A4q := @List.mem_flatMap
def A4r := @Bool.false_eq_true
def A4s := @List.filter_cons_of_pos
def A4t := @List.filter_cons_of_neg
def A4u := @List.getElem_cons_zero
def A4v := @List.getElem_cons_succ
def A4w := @List.filter_eq_nil_iff
def A4x := @Bool.not_eq_true'
def A4y := @Nat.sub_self
def A4z := @List.drop_append_of_le_length
def A5a := @List.getElem?_modify
def A5b := @List.pairwise_iff_getElem
def A5c := @List.nodup_iff_pairwise_ne
def A5d := @Array.getElem?_eq_some_iff
def A5e := @Option.map_none
def A5f := @List.toList_toArray
def A5g := @Array.getElem?_push
def A5h := @BitVec.getLsbD_not
def A5i := @List.drop_drop
def A5j := @List.getElem_append_right
def A5k := @Array.getElem?_eq_getElem
def A5l := @Nat.le_of_ble_eq_true
def A5m := @List.getD_eq_getElem?_getD
def A5n := @List.getElem?_eq_getElem
def A5o := @Option.some.inj
def A5p := @List.getElem_mem
def A5q := @Option.map_eq_some_iff
def A5r := @Int.toNat_natCast
def A5s := @Nat.le_refl
def A5t := @Bool.and_eq_true
def A5u := @List.eq_nil_of_length_eq_zero
def A5v := @Option.some.injEq
def A5w := @decide_eq_true_eq
def A5x := @List.filter_append
def A5y := @List.getElem?_eq_none
def A5z := @Option.getD_some
def A6a := @List.take_of_length_le
theorem ex_ {α : Type} (a : α) : ∃ x, a = x := ⟨_, rfl⟩
theorem wd (a : A) (h : A → B := by with_reducible first | exact stp | exact a2h rfl | exact a2o rfl (by decide) a2k | exact a2o rfl (by decide) (a2j (by simp [upd, noH, ext, b7e, b1m, *])) | exact a6p (by decide) (by kernel_rfl) | exact a3e (by decide)) : B := h a
theorem yg (a : A) (h : A → B := by with_reducible first | exact Kont.go hK) : B := h a
theorem yh (a : A) (h : A → B := by with_reducible first | exact KT.go hT | exact KT.go hE) : B := h a
theorem y1 (h : P := by simp [*, SIMF, NLQ, A6a, A5x, *] <;> fail) : P := h
theorem y2 (h : P := by simp [*, SIMF, NLQ, A6a, A5x] <;> fail) : P := h
theorem dz2 (a : A) (h : A → B := by with_reducible first | exact stp | exact a2h rfl | exact a2o rfl (A5l rfl) a2k | exact a2o rfl (A5l rfl) (a2j (by simp [HPXB, a0q, ext, upd, *])) | exact a6p (by decide) (by kernel_rfl) | exact a3e (by decide)) : B := h a
theorem yf (h : P := by dsimp only; omega) : P := h
theorem dz3 (a : A) (h : A → B := by with_reducible first | exact stp | exact a2h rfl | exact a2o rfl (A5l rfl) a2k | exact a2o rfl (A5l rfl) (a2j (by simp [HPXB, a0q, ext, upd, *])) | exact c7f _ (by decide) (by kernel_rfl) rfl (by kernel_rfl) (by simp [a0x]) rfl (A5l rfl) | exact a6p (by decide) (by kernel_rfl) | exact a3e (by decide)) : B := h a
theorem yx (h : P := by first | rfl | simp [LPXB, *, SIMB, hdN, injB, b8u, c8m] <;> fail) : P := h
theorem wu (h : P := by first | rfl | simp [LPXB, *, SIMB, hdN, injB, f9w, sits, a9h] <;> fail) : P := h
theorem ww (h : P := by have e := f3g hlt hlk hac; first | rfl | (simp [LPXB, *, SIMB, hdN, injB]; done)) : P := h
theorem wx (h : P := by have e := e4b hlt hlk hac; first | rfl | (simp [LPXB, *, SIMB, hdN, injB]; done)) : P := h
theorem y10 (h : P := by first | rfl | simp [LPXB, *, SIMB, hdN, injB, a9n, a6i, c1y, b7w, b0h, A0u] <;> fail) : P := h
theorem y11 (h : P := by have e := e0n hlt; first | rfl | (simp [LPXB, *, SIMB, hdN, injB, fz, fzs, fzss, fzO, fzT, fze, z0y, a9n, a6i, c1y, b7w, b0h, A0u]; done)) : P := h
theorem dz4 (a : A) (h : A → B := by with_reducible first | exact stp | exact a2h rfl | exact a2o rfl (A5l rfl) a2k | exact a2o rfl (A5l rfl) (a2j (by simp [HPXB, a8r, a9a, a0q, ext, upd, *])) | exact a6p (by decide) (by kernel_rfl) | exact a3e (by decide)) : B := h a
theorem dz5 (a : A) (h : A → B := by with_reducible first | exact stp | exact a2h rfl | exact a2o rfl (A5l rfl) a2k | exact a2o rfl (A5l rfl) (a2j (by simp [HPXB, a9a, a0q, ext, upd, *])) | exact a6p (by decide) (by kernel_rfl) | exact a3e (by decide)) : B := h a
theorem wz (h : P := by first | rfl | simp [LPXB, *, SIMB, hdN, injB, e9t] <;> fail) : P := h
theorem y13 (h : P := by have e := c9f hlt hq; first | rfl | (simp [LPXB, *, SIMB, hdN, injB, a0j]; done)) : P := h
theorem y14 (h : P := by have e := d7i hlt hq; first | rfl | (simp [LPXB, *, SIMB, hdN, injB]; done)) : P := h
theorem yo (a : A) (h : A → B := by with_reducible first | exact stp | exact a2h rfl | exact a2o rfl (A5l rfl) a2k | exact a2o rfl (A5l rfl) (a2j (by simp [HPXB, a8r, z1v, ext, upd, *])) | exact a6p (by decide) (by kernel_rfl) | exact a3e (by decide)) : B := h a
theorem dz7 (a : A) (h : A → B := by with_reducible first | exact stp | exact a2h rfl) : B := h a
theorem dz8 (a : A) (h : A → B := by with_reducible first | exact a2o rfl (A5l rfl) a2k | exact a2o rfl (A5l rfl) (a2j (by simp [HPXB, a8r, a9a, a0q, ext, upd, *])) | exact a6p (by decide) (by kernel_rfl) | exact a3e (by decide)) : B := h a
theorem y17 (h : P := by first | rfl | simp [LPXB, *, SIMB, hdN, injB, a0u, z14] <;> fail) : P := h
theorem y18 (h : P := by first | rfl | simp [LPXB, *, SIMB, hdN, injB, a0u, z14, f4q, c1b, e1p, bkF, nmF, stF] <;> fail) : P := h
theorem y23 (h : P := by simp [HPXB] <;> fail) : P := h
theorem ym (h : P := by first | rfl | simp [LPXB, *, SIMB, hdN, injB, fz, fzs, fzss, fzO, fzT, fze, z0y, a0u, a0i, a4o, a4f, a0o, c1a, f0n, a0g, c9m, d6p, d8r, c2e, ren, inn, a2u, a5k, a1z, a4p, a0j, e9n, b8f, b8e, bRow, g9u, e1q, a1k, g2e] <;> fail) : P := h
theorem y29 (h : P := by first | rfl | simp [rv, Fs.get, lk] <;> fail) : P := h
theorem y32 (h : P := by first | rfl | simp [LPXB, *, SIMB, hdN, injB, a0u, z14, g7x] <;> fail) : P := h
theorem y33 (h : P := by first | rfl | simp [LPXB, *, SIMB, hdN, injB, e0u, d2u, A3w, A2h, ↓e9v, c5t, c6d] <;> fail) : P := h
theorem y34 (h : P := by first | rfl | simp [LPXB, *, SIMB, hdN, injB, ↓e9v, g1h, c5t, c6d, e0u, d2u, A3w, A2h] <;> fail) : P := h
theorem dk1 (a : A) (h : A → B := by with_reducible first | exact a0n (id := 14) 10 a0d (by kernel_rfl) | exact stpK) : B := h a
theorem yp (h : P := by first | rfl | simp [LPXB, *, SIMB, hdN, injB, a4o, a4f, a0o, b3h, a0i, e5a, e9n, A2h, d2u, e1n, f3v, f5n, c5t, c6d, g1h, g9y, e1p, f4q, c1b, g9r, c7b] <;> fail) : P := h
theorem y41 (h : P := by first | rfl | simp [LPXB, *, SIMB, hdN, injB, dfK, a1z, bk, inH] <;> fail) : P := h
theorem yn (h : P := by rfl) : P := h
theorem dz9 (a : A) (h : A → B := by with_reducible first | exact stp | exact a2h rfl | exact a2o rfl (A5l rfl) a2k | exact a2o rfl (A5l rfl) (a2j (by simp [HPXB, b8l, a8r, z1v, ext, upd, *])) | exact a6p (by decide) (by kernel_rfl) | exact a3e (by decide)) : B := h a
theorem y46 (h : P := by first | rfl | simp [LPXB, *, SIMB, hdN, injB, rndC, b8l, d3u, f8j] <;> fail) : P := h
theorem y47 (h : P := by first | rfl | simp [LPXB, *, SIMB, hdN, injB, A0v, edsB, A2h, b8l, d3u, f8j] <;> fail) : P := h
theorem y48 (h : P := by first | rfl | simp [LPXB, *, SIMB, hdN, injB, b8l, d3u, f8j] <;> fail) : P := h
theorem y52 (h : P := by simp [LPXB, *, SIMB, z0v, fB, f62, a0u, z14, a1z, a4p, a0j, mk1] <;> fail) : P := h
theorem yy (h : P := by simp [injB, bk, LPXB] <;> fail) : P := h
theorem y54 (h : P := by simp [LPXB, *, z0t, inH, z0v, fB, f62, a0u, z14, a1z, a4p, a0j, mk1] <;> fail) : P := h
theorem y59 (h : P := by simp [HPXB, fB, f62] <;> fail) : P := h
theorem y60 (h : P := by simp [LPXB, *, z0t, inH, z0v, a0u, z14, a0j, a0q] <;> fail) : P := h
theorem z4l (a : A) (h : A → B := by with_reducible first | exact stp | exact a2h rfl | exact a2o rfl (A5l rfl) a2k | exact a2o rfl (A5l rfl) (a2j (by simp [HPXB, z1v, hB.fr, ext, upd, *])) | exact c7f _ (by decide) (by kernel_rfl) rfl (by kernel_rfl) (by simp [a0x]) rfl (A5l rfl) | exact a6p (by decide) (by kernel_rfl) | exact a3e (by decide)) : B := h a
theorem y62 (h : P := by first | rfl | simp [LPXB, *, SIMB, hdN, injB, fz, fzs, fzss, fzO, fzT, fze, z0y, a8z, b1s, hB.fr, a1q, a0j, a0v, a6r, z1u, e4f, e2c] <;> fail) : P := h
theorem y63 (h : P := by first | rfl | simp [LPXB, *, SIMB, hdN, injB, a8z, b1s, hB.fr, a1q, a0j, a0v, a6r, z1u] <;> fail) : P := h
theorem y64 (h : P := by simp [a8z, b1s, hB.fr, hB.f1, hB.f3, a0s, LPXB, *, SIMB, fz, fzs, fzss, fzO, fzT, fze, z0y] <;> fail) : P := h
theorem y65 (h : P := by simp [LPXB, *, SIMB, fz, fzs, fzss, fzO, fzT, fze, z0y, a8z, b1s, hB.fr, a1q, a0j, a0v, a6r, z1u, a0y, hB.f1, hB.f3] <;> fail) : P := h
theorem y66 (h : P := by have e := b6w (x.regs[f]'hlt) hlr; first | rfl | (simp [LPXB, *, SIMB, hdN, injB, fz, fzs, fzss, fzO, fzT, fze, z0y, a8z, b1s, hB.fr, a1q, a0j, a0v, a6r, z1u]; done)) : P := h
theorem y67 (h : P := by have e1 := d6b hlt; have e2 : ∀ g, g < f -> ¬ g = f := (fun g hg => by omega); have e3 : ∀ g, g < f -> g < x.regs.length := (fun g hg => by omega); simp [LPXB, *, z0t, hil, a8z, e2d, hB.fr, d0e, a6a, a6d, d6n, d8p, a1q, a0v, a0y, A0j, A0w, e1, e2, e3] <;> fail) : P := h
theorem y68 (h : P := by have e := b6w x.cells hlc; simp [LPXB, *, SIMB, fz, fzs, fzss, fzO, fzT, fze, z0y, a8z, b1s, hB.fr, a1q, a0j, a0v, a6r, z1u, a0y, hB.f1, hB.f3] <;> fail) : P := h
theorem y69 (h : P := by first | rfl | simp [LPXB, *, SIMB, hdN, injB, a3f, z1g] <;> fail) : P := h
theorem y70 (h : P := by first | rfl | simp [LPXB, *, SIMB, hdN, injB, z1g] <;> fail) : P := h
theorem y71 (h : P := by simp [LPXB, *, z0t, inH, z0v, a0q, a0u, a0i, rK_0] <;> fail) : P := h
theorem dk2 (a : A) (h : A → B := by with_reducible first | exact a0n (id := 1) 9 a0d (by kernel_rfl) | exact stpK) : B := h a
theorem zb (h : P := by simp [LPXB, *, z0t, inH, z0v, a0u, a0i, a3n, a9m, a7b, a7g, a5i, a8d, A0v, a1z, e3d, fz, fzs, fzss, fzO, fzT, fze, z0y, a8g] <;> fail) : P := h
theorem y79 (h : P := by simp [ninL, ninO, a1h, nins, nin, z1o, a0g, a1p, a9m, a6c, a5t, inH, HPXB, bRow, *] <;> fail) : P := h
theorem y80 (h : P := by simp [ext, a0q, yw] <;> fail) : P := h
theorem y84 (h : P := by first | rfl | simp [a0x] <;> fail) : P := h
theorem y85 (h : P := by simp [HPXB, fB, yu] <;> fail) : P := h
theorem y86 (h : P := by exact a4t hZt) : P := h
theorem y87 (h : P := by exact f8i HL) : P := h
theorem y88 (h : P := by dsimp only; simp only [A0b, A1x]; omega) : P := h
theorem zp (h : P := by first | rfl | simp [LPXB, *, SIMB, hdN, injB, yu, ze, a1p, e9t] <;> fail) : P := h
theorem y90 (h : P := by first | rfl | simp [ninL, ninO, a1h, nins, nin, zk, mapO, a1f, ze, hdN, *] <;> fail) : P := h
theorem y92 (h : P := by have e := c9f hlt hq; first | rfl | (simp [LPXB, *, SIMB, hdN, injB, a0j, fB, yu, hdN, ze]; done)) : P := h
theorem y93 (h : P := by have e := d7i hlt hq; first | rfl | (simp [LPXB, *, SIMB, hdN, injB, fB, yu, hdN, ze]; done)) : P := h
theorem y94 (h : P := by simp [a0o] <;> fail) : P := h
theorem y95 (h : P := by simp [yw] <;> fail) : P := h
theorem wh (a : A) (h : A → B := by with_reducible first | exact a0n (id := 1) 9 a0d (by kernel_rfl) | exact a0n (id := 11) 6 a0d (by kernel_rfl) | exact stpK) : B := h a
theorem dx1 (a : A) (h : A → B := by first | with_reducible exact fun (a : ∀ K, _ → _) => a9y (id := 24) fun K hK => a7k 3 (a K hK) | with_reducible exact fun (a : ∀ K, _ → _) => a9y (id := 27) fun K hK => a7k 5 (a K hK) | with_reducible exact fun (a : ∀ K, _ → _) => a9y (id := 31) fun K hK => a7k 5 (a K hK) | with_reducible exact fun (a : ∀ K, _ → _) => a9y (id := 33) fun K hK => a7k 6 (a K hK) | with_reducible exact fun (a : ∀ K, _ → _) => a9y (id := 36) fun K hK => a7k 5 (a K hK) | with_reducible exact fun (a : ∀ K, _ → _) => a9y (id := 39) fun K hK => a7k 5 (a K hK) | with_reducible exact fun (a : ∀ K, _ → _) => a9y (id := 41) fun K hK => a7k 5 (a K hK) | with_reducible exact fun (a : ∀ K, _ → _) => a9y (id := 45) fun K hK => a7k 4 (a K hK)) : B := h a
theorem zu (a : A) (h : A → B := by with_reducible first | exact stp | exact a2h rfl | exact a2o rfl (A5l rfl) a2k | exact a2o rfl (A5l rfl) (a2j (by simp [HPXB, z1v, ext, upd, *])) | exact a6p (by decide) (by kernel_rfl) | exact a3e (by decide)) : B := h a
theorem y97 (h : P := by first | rfl | simp [LPXB, *, SIMB, hdN, injB, a3f, hBl, z1g] <;> fail) : P := h
theorem y99 (h : P := by first | rfl | simp [ninL, ninO, a1h, nins, nin, zk, mapO, z15, hdN, *] <;> fail) : P := h
theorem yk (h : P := by first | rfl | simp [LPXB, *, SIMB, hdN, injB, yu, ze, a8u, a0g, a0o] <;> fail) : P := h
theorem z1k (a : A) (h : A → B := by with_reducible first | exact stp | exact a2h rfl | exact a2o rfl (A5l rfl) a2k | exact a2o rfl (A5l rfl) (a2j (by simp [HPXB, b3y, a8r, b3a, z1v, ext, upd, *])) | exact a6p (by decide) (by kernel_rfl) | exact a3e (by decide)) : B := h a
theorem z3g (h : P := by have r1 := a8a (β := bk (([86, i], some [6, 38]) :: [([6, 1000], some [6, 40])])) (n := i) (fun g hg => by simp [bk]; try omega); simp only [bk] at r1; have n1 := fun (L : List (FM.Loc × FO)) => a6e (β := bk (([86, i], some [6, 38]) :: [([6, 1000], some [6, 40])])) (L := L) (B := B) (c := i) (R := []) (r := 0) (n := i) (by omega) (fun g hg => by simp [bk]; try omega); simp only [bk] at n1; have e1 := d6e i; simp [LPXB, *, z0t, fB, z1h, hdN, z1i, A0v, a6a, a6d, mapO, b5r] <;> fail) : P := h
theorem z3h (h : P := by have r1 := a8a (β := bk (([86, 0], some [6, 38]) :: [([6, 1000], some [6, 40])])) (n := 0) (fun g hg => by simp [bk]; try omega); simp only [bk] at r1; have n1 := fun (L : List (FM.Loc × FO)) => a6e (β := bk (([86, 0], some [6, 38]) :: [([6, 1000], some [6, 40])])) (L := L) (B := B) (c := 0) (R := []) (r := 0) (n := 0) (by omega) (fun g hg => by simp [bk]; try omega); simp only [bk] at n1; have e1 := d6e 0; simp [LPXB, *, z0t, fB, z1h, hdN, z1i, A0v, a6a, a6d, mapO, b5r] <;> fail) : P := h
theorem z1w (h : P := by have r1 := a8a (β := bk [([6, 1002], none)]) (n := (a0a p).length) (fun g hg => by simp [bk]; try omega); simp only [bk] at r1; have n1 := fun (L : List (FM.Loc × FO)) => a6e (β := bk [([6, 1002], none)]) (L := L) (B := B) (c := (a0a p).length) (R := []) (r := 0) (n := (a0a p).length) (by omega) (fun g hg => by simp [bk]; try omega); simp only [bk] at n1; first | rfl | (simp [LPXB, *, SIMB, hdN, injB, bk_n, bk_c, fB, z1h, hdN, z1i, A0v, Rf_0]; done)) : P := h
theorem z1x (h : P := by have r1 := a8a (β := bk [([6, 1001], none)]) (n := (a0a p).length) (fun g hg => by simp [bk]; try omega); simp only [bk] at r1; have n1 := fun (L : List (FM.Loc × FO)) => a6e (β := bk [([6, 1001], none)]) (L := L) (B := B) (c := (a0a p).length) (R := (Rf p f)) (r := 0) (n := (a0a p).length) (by omega) (fun g hg => by simp [bk]; try omega); simp only [bk] at n1; have r2 := b2e (β := bk [([6, 1001], none)]) (R := (Rf p f)) (fun g hg => by simp [bk]; try omega); simp only [bk] at r2; have n2 := fun (L : List (FM.Loc × FO)) => b0q (β := bk [([6, 1001], none)]) (L := L) (B := B) (c := (a0a p).length) (R := (Rf p f)) (r := 0) (fun g hg => by simp [bk]; try omega); simp only [bk] at n2; first | rfl | (simp [LPXB, *, SIMB, hdN, injB, bk_n, bk_c, fB, z1h, hdN, z1i, A0v, Rf_0]; done)) : P := h
theorem z3i (h : P := by have r1 := a8a (β := bk (([85, f, r], some [6, 56]) :: [([6, 1001], some [6, 58])])) (n := (a0a p).length) (fun g hg => by simp [bk]; try omega); simp only [bk] at r1; have n1 := fun (L : List (FM.Loc × FO)) => a6e (β := bk (([85, f, r], some [6, 56]) :: [([6, 1001], some [6, 58])])) (L := L) (B := B) (c := (a0a p).length) (R := (Rf p f)) (r := r) (n := (a0a p).length) (by omega) (fun g hg => by simp [bk]; try omega); simp only [bk] at n1; have r2 := b2e (β := bk (([85, f, r], some [6, 56]) :: [([6, 1001], some [6, 58])])) (R := (Rf p f)) (fun g hg => by simp [bk]; try omega); simp only [bk] at r2; have n2 := fun (L : List (FM.Loc × FO)) => b0q (β := bk (([85, f, r], some [6, 56]) :: [([6, 1001], some [6, 58])])) (L := L) (B := B) (c := (a0a p).length) (R := (Rf p f)) (r := r) (fun g hg => by simp [bk]; try omega); simp only [bk] at n2; have r3 := c8w (β := bk (([85, f, r], some [6, 56]) :: [([6, 1001], some [6, 58])])) (f := f) (n := r) (fun g hg => by simp [bk]; try omega); simp only [bk] at r3; have n3 := fun (L : List (FM.Loc × FO)) => c4c (β := bk (([85, f, r], some [6, 56]) :: [([6, 1001], some [6, 58])])) (L := L) (B := B) (c := (a0a p).length) (R := (Rf p f)) (r := r) (f := f) (n := r) (.inl ⟨by first | rfl | omega, by omega⟩) (fun g hg => by simp [bk]; try omega); simp only [bk] at n3; have e1 := f3k f r; simp [LPXB, *, z0t, fB, z1h, hdN, z1i, A0v, a6a, a6d, mapO, b5r] <;> fail) : P := h
theorem z3j (h : P := by have r1 := a8a (β := bk (([83, f], some [6, 1001]) :: [([6, 1002], some [6, 67])])) (n := (a0a p).length) (fun g hg => by simp [bk]; try omega); simp only [bk] at r1; have n1 := fun (L : List (FM.Loc × FO)) => a6e (β := bk (([83, f], some [6, 1001]) :: [([6, 1002], some [6, 67])])) (L := L) (B := B) (c := (a0a p).length) (R := (Rf p f)) (r := nr) (n := (a0a p).length) (by omega) (fun g hg => by simp [bk]; try omega); simp only [bk] at n1; have r2 := b2e (β := bk (([83, f], some [6, 1001]) :: [([6, 1002], some [6, 67])])) (R := (Rf p f)) (fun g hg => by simp [bk]; try omega); simp only [bk] at r2; have n2 := fun (L : List (FM.Loc × FO)) => b0q (β := bk (([83, f], some [6, 1001]) :: [([6, 1002], some [6, 67])])) (L := L) (B := B) (c := (a0a p).length) (R := (Rf p f)) (r := nr) (fun g hg => by simp [bk]; try omega); simp only [bk] at n2; have r3 := c8w (β := bk (([83, f], some [6, 1001]) :: [([6, 1002], some [6, 67])])) (f := f) (n := nr) (fun g hg => by simp [bk]; try omega); simp only [bk] at r3; have n3 := fun (L : List (FM.Loc × FO)) => c4c (β := bk (([83, f], some [6, 1001]) :: [([6, 1002], some [6, 67])])) (L := L) (B := B) (c := (a0a p).length) (R := (Rf p f)) (r := nr) (f := f) (n := nr) (.inl ⟨by first | rfl | omega, by omega⟩) (fun g hg => by simp [bk]; try omega); simp only [bk] at n3; have e1 := d2k (Rf p f) nr; rw [hRl] at e1; simp [LPXB, *, z0t, fB, z1h, hdN, z1i, A0v, a6a, a6d, mapO, b5r] <;> fail) : P := h
theorem z4a (h : P := by first | trivial | simp [simT] <;> fail) : P := h
theorem z1l (h : P := by simp [*, SIMF, NLQ, a3p, a2e, a3o, b2a, b0a, a9f, A1c, A2d, A6a, A5x, *] <;> fail) : P := h
theorem z3k (h : P := by simp [*, SIMF, NLQ, a3p, a2e, a3o, b2a, b0a, a9f, A1c, A2d, A6a, A5x] <;> fail) : P := h
theorem z3l (h : P := by have e := gst p hlt; simp [*, SIMF, NLQ, a3p, a2e, a3o, b2a, b0a, a9f, A1c, A2d, A6a, A5x, *] <;> fail) : P := h
theorem z3m (h : P := by have e := fst' p hlt; simp [*, SIMF, NLQ, a3p, a2e, a3o, b2a, b0a, a9f, A1c, A2d, A6a, A5x, *] <;> fail) : P := h
theorem dk4 (a : A) (h : A → B := by with_reducible first | exact a0n (id := 63) 25 a0d (by kernel_rfl) | exact a0n (id := 59) 7 a0d (by kernel_rfl) | exact a0n (id := 51) 24 a0d (by kernel_rfl) | exact a0n (id := 46) 25 a0d (by kernel_rfl) | exact a0n (id := 38) 17 a0d (by kernel_rfl) | exact a0n (id := 36) 12 a0d (by kernel_rfl) | exact a0n (id := 33) 17 a0d (by kernel_rfl) | exact a0n (id := 30) 13 a0d (by kernel_rfl) | exact a0n (id := 28) 12 a0d (by kernel_rfl) | exact a0n (id := 24) 17 a0d (by kernel_rfl) | exact a0n (id := 21) 15 a0d (by kernel_rfl) | exact a0n (id := 19) 15 a0d (by kernel_rfl) | exact a0n (id := 15) 12 a0d (by kernel_rfl) | exact a0n (id := 14) 11 a0d (by kernel_rfl) | exact a0n (id := 5) 11 a0d (by kernel_rfl) | exact stpK) : B := h a
theorem dk5 (a : A) (h : A → B := by with_reducible first | exact a0n (id := 63) 25 a0d (by kernel_rfl) | exact a0n (id := 59) 7 a0d (by kernel_rfl) | exact a0n (id := 51) 24 a0d (by kernel_rfl) | exact a0n (id := 46) 25 a0d (by kernel_rfl) | exact a0n (id := 38) 17 a0d (by kernel_rfl) | exact a0n (id := 33) 17 a0d (by kernel_rfl) | exact a0n (id := 24) 17 a0d (by kernel_rfl) | exact a0n (id := 21) 15 a0d (by kernel_rfl) | exact a0n (id := 19) 15 a0d (by kernel_rfl) | exact a0n (id := 15) 12 a0d (by kernel_rfl) | exact a0n (id := 14) 10 a0d (by kernel_rfl) | exact a0n (id := 5) 11 a0d (by kernel_rfl) | exact stpK) : B := h a
theorem z1y (h : P := by first | rfl | simp [LPXB, *, SIMB, hdN, injB, z1g, d1r, b4t, List.range_zero, A2h] <;> fail) : P := h
theorem zq (h : P := by first | rfl | simp [LPXB, *, SIMB, hdN, injB, z1g, d1r, e2b] <;> fail) : P := h
theorem z0j (h : P := by first | rfl | simp [LPXB, *, SIMB, hdN, injB, z1g, d1r, f4g, f3s, a1p] <;> fail) : P := h
theorem z1z (h : P := by first | rfl | simp [LPXB, *, SIMB, hdN, injB, z1g, d1r, f4g, f3s, a1p, A0v, a7z, A2h] <;> fail) : P := h
theorem z20 (h : P := by first | rfl | simp [LPXB, *, SIMB, hdN, injB, z1g, d1r, a5d, A0v, A2h] <;> fail) : P := h
theorem z16 (h : P := by first | rfl | simp [LPXB, *, SIMB, hdN, injB, z1g, d1r, e4y, A0v] <;> fail) : P := h
theorem z2a (h : P := by first | rfl | simp [LPXB, *, SIMB, hdN, injB, z1g, d1r, f4e, f6r] <;> fail) : P := h
theorem z4e (h : P := by simp [*, SIMB, fB, yu, hdN, ze, a8u, b3a, a0q, a8u, h81, h88i] <;> fail) : P := h
theorem z4f (h : P := by simp [a7j, b3a, a4l, a3g, a0q] <;> fail) : P := h
theorem yj (h : P := by first | rfl | simp [LPXB, *, SIMB, hdN, injB, yu, z2r, anR, z2m, A0j, A1l, A0w, a0w, asR, a0v, a6r, a2x, b0k, A1c, A2d, A0c, a2f, a1i, a6j, fz, fzs, fzss, fzO, fzT, fze, z0y, A0v, d7y, a8g, b3y, e8m, e8j, c9n, a3k, a3j, b4d, b2i, e9j, e9h, d6a, e9f, e9e, MA_0, d6m, d8n, b6y, a0j] <;> fail) : P := h
theorem z34 (a : A) (h : A → B := by with_reducible first | exact stp | exact a2h rfl | exact a2o rfl (A5l rfl) a2k | exact a2o rfl (A5l rfl) (a2j (by simp [HPXB, b8l, b3y, a8r, b3a, z1v, ext, upd, *])) | exact a6p (by decide) (by kernel_rfl) | exact a3e (by decide)) : B := h a
theorem z0r (h : P := by first | rfl | simp [LPXB, *, SIMB, hdN, injB, a6z, a6k, g8r] <;> fail) : P := h
theorem z17 (h : P := by first | rfl | simp [LPXB, *, SIMB, hdN, injB, e5b, e9p, e9q, a1i, a5j, a1a] <;> fail) : P := h
theorem z21 (h : P := by first | rfl | simp [LPXB, *, SIMB, hdN, injB, e5b, e9p, e9q, a1i, a5j, a1a, dsK] <;> fail) : P := h
theorem z2i (a : A) (h : A → B := by with_reducible first | exact stp | exact a2h rfl | exact a2o rfl (A5l rfl) a2k | exact a2o rfl (A5l rfl) (a2j (by simp [HPXB, b8l, b3y, a8r, b3a, a9a, b1s, a8z, a8l, a0q, ext, upd, *])) | exact a6p (by decide) (by kernel_rfl) | exact a3e (by decide)) : B := h a
theorem z4h (h : P := by simp [ninL, ninO, a1h, nins, nin, z1o, a0g, a1p, a9m, d2v, a6c, a5t, bRow, *] <;> fail) : P := h
theorem y0 (h : P := by simp [LPXB, *, z0t, inH, z0v, a8l, fz, fzs, fzss, fzO, fzT, fze, z0y, d9p, d2q, d3a, e9s, a8b, e9r, a0q, A0v, a8g, a1z, a0j] <;> fail) : P := h
theorem z4m (a : A) (h : A → B := by with_reducible first | exact stp | exact a2h rfl | exact a2o rfl (A5l rfl) a2k | exact a2o rfl (A5l rfl) (a2j (by simp [HPXB, b8l, b3y, a8r, b3a, z1v, ext, upd, *])) | exact c7f _ (by decide) (by kernel_rfl) rfl (by kernel_rfl) (by simp [a0x]) rfl (A5l rfl) | exact a6p (by decide) (by kernel_rfl) | exact a3e (by decide)) : B := h a
theorem z3u (h : P := by have e := f6f p hlt; simp [LPXB, *, z0t, inH, z0v, fB, f71, f72, fz, fzs, fzss, fzO, fzT, fze, z0y] <;> fail) : P := h
theorem z3v (h : P := by have e := e5p p hlt; simp [LPXB, *, z0t, inH, z0v, fB, f71, f72, fz, fzs, fzss, fzO, fzT, fze, z0y] <;> fail) : P := h
theorem z18 (h : P := by first | rfl | simp [LPXB, *, SIMB, hdN, injB, a0u, z14, mk1] <;> fail) : P := h
theorem z27 (h : P := by first | rfl | simp [LPXB, *, SIMB, hdN, injB, a0u, z14, rZ_0] <;> fail) : P := h
theorem z2k (a : A) (h : A → B := by with_reducible first | exact stp | exact a2h rfl | exact a2o rfl (A5l rfl) a2k | exact a2o rfl (A5l rfl) (a2j (by simp [HPXB, b8l, b3y, a8r, b3a, a9a, b1s, a8z, a8l, b1o, a0q, ext, upd, *])) | exact a6p (by decide) (by kernel_rfl) | exact a3e (by decide)) : B := h a
theorem zm (h : P := by simp [LPXB, *, z0t, inH, z0v, b1o, a4n, a6x, b2c, b3f, b3e, b0n, b3m, a0i, a0u, c8p, d5v, a1k, b5q, A0v, c8q, b5s, c3c, fV_0, Bool.or_false, d2p, d2z, g0e] <;> fail) : P := h
theorem z4j (h : P := by simp [LPXB, hd6] <;> fail) : P := h
theorem z37 (h : P := by first | (simp [LPXB, *, z0t, inH, z0v, b1o, a4n, a6x, b2c, b3f, b3e, b0n, b3m, a0i, a0u, c8p, d5v, a1k, b5q, A0v, b6m hlk]; done) | (simp [LPXB, *, z0t, inH, z0v, b1o, a4n, a6x, b2c, b3f, b3e, b0n, b3m, a0i, a0u, c8p, d5v, a1k, b5q, A0v, b6m hlk]; exact b0n (fun i => (by split <;> rfl)) (by rw [A0b, hgk]; simp)) | (dsimp only; omega)) : P := h
theorem z29 (h : P := by first | rfl | simp [LPXB, *, SIMB, hdN, injB, a0i, a1i, a5j, a1a, b5j, dsK] <;> fail) : P := h
theorem zg (h : P := by first | rfl | simp [LPXB, *, SIMB, hdN, injB, a0i, a1i, a5j, a1a, b5j, d5v, a1k] <;> fail) : P := h
theorem z2l (h : P := by simp [LPXB, *, SIMB, z0v, a0q, a4n, b6p, a3s hHl, a8c hHl, a3w, a5s, a4v hHl, z2j] <;> fail) : P := h
theorem z1n (h : P := by simp [LPXB, *, z0t, inH, z0v, a0q, a4n, b6p, a3s hHl, a8c hHl, a3w, a5s, a4v hHl, z2j] <;> fail) : P := h
theorem z4k (h : P := by simp [LPXB, *, SIMB, z0v, a0q, a4n, b6p, a3s hHl, a8c hHl, a3w, a5s, a4v hHl, z2j, a0j] <;> fail) : P := h
theorem z3w (h : P := by simp [LPXB, *, z0t, inH, z0v, a0q, a4n, b6p, a3s hHl, a8c hHl, a3w, a5s, a4v hHl, z2j, a0j] <;> fail) : P := h
theorem z3x (h : P := by simp [LPXB, *, z0t, inH, z0v, a0q, fz, fzs, fzss, fzO, fzT, fze, z0y, d9q, a4n, b6p, a3s hHl, a8c hHl, a3w, a5s, a4v hHl, z2j] <;> fail) : P := h
theorem yi (a : A) (h : A → B := by with_reducible first | exact f5b) : B := h a
theorem ye (a : A) (h : A → B := by with_reducible first | exact f5k) : B := h a
theorem wg (a : A) (h : A → B := by with_reducible first | exact cgB) : B := h a
theorem zj (a : A) (h : A → B := by with_reducible first | exact mdH) : B := h a
theorem zf (a : A) (h : A → B := by with_reducible first | exact lfH) : B := h a
theorem yg1 (h : P := by exact b4f [] (fun _ h => h) (by rfl) y1 y2 y1) : P := h
theorem wn (h : P := by exact b4f [] (fun _ h => h) (by rfl) y1 y1 y1) : P := h
theorem yt (h : P := by exact gk3 (j := 0) [] (Bs.pc _) yx yx yx yx yx yx yx) : P := h
theorem yg4 (h : P := by exact gk3 (j := 0) [] (Bs.pc _) y17 y17 y17 y17 y17 y17 y17) : P := h
theorem yg5 (h : P := by exact gk3 (j := 0) [] (Bs.pc _) ym ym ym ym ym ym ym) : P := h
theorem yg6 (h : P := by exact gk3 (j := 0) [] (Bs.pc _) y34 y34 y34 y34 y34 y34 y34) : P := h
theorem yg7 (h : P := by exact gk3 (j := 3) [] (hB.bs (by decide) _ _) y48 y48 y48 y48 y48 y48 y48) : P := h
theorem yg8 (h : P := by exact gk5S [] rfl hB.c5 hB.l5 y60 y60 yy y60 y60 y60) : P := h
theorem yg9 (h : P := by exact gk5S [] rfl hB.c5 hB.l5 zb zb yy zb zb zb) : P := h
theorem z2o (h : P := by exact gk3i (j := 2) [] (hB _ _ _ _ hy hy) zp zp zp zp zp zp zp) : P := h
theorem z2p (h : P := by exact gk3i (j := 2) [] (hB _ _ _ _ hy hZ2) zp zp zp zp zp zp zp) : P := h
theorem z2y (h : P := by exact gk3i (j := 1) [] (hB _ _ _ _ hy hy) zp zp zp zp zp zp zp) : P := h
theorem z3d (h : P := by exact gk3i (j := 2) [] (hB _ _ _ _ hy hy) zp zp zp zp zp zp zp) : P := h
theorem z3e (h : P := by exact gk3i (j := 2) [] (hB _ _ _ _ hy hy) y92 y92 y92 y92 y92 y92 y92) : P := h
theorem z3f (h : P := by exact gk3i (j := 2) [] (hB _ _ _ _ hy hy) y93 y93 y93 y93 y93 y93 y93) : P := h
theorem z3o (h : P := by exact gk3 (j := 2) [] (hB _ _ hy (hPF 0 (by omega))) z0j z0j z0j z0j z0j z0j z0j) : P := h
theorem z3p (h : P := by exact gk3 (j := 2) [] (hB _ _ hy (hPF (k + 1) (by omega))) z0j z0j z0j z0j z0j z0j z0j) : P := h
theorem z4c (h : P := by exact gk3 (j := 2) [] (hB _ _ hy (hPF pn (A5s _))) z0j z0j z0j z0j z0j z0j z0j) : P := h
theorem z32 (h : P := by exact gk3 (j := 3) [] (bsPF 3 (by decide) _) z2a z2a z2a z2a z2a z2a z2a) : P := h
theorem z2g (h : P := by exact gk3 (j := 0) [] (Bs.pc _) z0r z0r z0r z0r z0r z0r z0r) : P := h
theorem z3r (h : P := by exact gk3 (j := 5) [] hB.toH.bs z17 z17 z17 z17 z17 z17 z17) : P := h
theorem z1q (h : P := by exact gk5S [] (by simp [*, c3c, c8q, b5s]) (b0s _) (fun _ h => h.elim) zm zm yy zm zm zm) : P := h
theorem yd (h : P := by simp) : P := h
theorem z2b (h : P := by have := h.size; omega) : P := h
theorem ya (h : P := by omega) : P := h
theorem wo (h : P := by simp [hx]) : P := h
theorem zl (h : P := by simpa using h) : P := h
theorem z2s (h : P := by show w.heap.size < (w.heap.push _).size; simp) : P := h
theorem yz (h : P := by simp; omega) : P := h
theorem z3z (h : P := by rw [show off + i + (cap - i) = off + cap by omega]; exact hs) : P := h
theorem z1r (h : P := by simpa using hl) : P := h
theorem z1d (h : P := by simp [upds, upd]) : P := h
theorem z1a (h : P := by simp [upd]) : P := h
theorem z40 (h : P := by obtain ⟨o, g1, g2⟩ := hl; exact ⟨o, hs l o g1, g2⟩) : P := h
theorem z38 (h : P := by simpa [Op.operands] using hx) : P := h
theorem z2c (h : P := by rw [hx]; simp) : P := h
theorem z39 (h : P := by rw [getD_replicate_false] at hl; cases hl) : P := h
theorem zr (h : P := by cases h) : P := h
theorem z1e (h : P := by simp [e]) : P := h
theorem z3a (h : P := by rw [<- a5b]; exact hn) : P := h
theorem z2t (h : P := by simp only [A0o, A1t]; exact .inl (.inl ⟨p, hp, rfl⟩)) : P := h
theorem z41 (h : P := by simp only [A0m, A1t]; exact .inr ⟨p, hp, rfl⟩) : P := h
theorem yb (h : P := by decide) : P := h
theorem yr (h : P := by simp [nls, nl, *, a1p, z1o, a0g]) : P := h
theorem yc (h : P := by kernel_rfl) : P := h
theorem z1f (h : P := by simp [a0x]) : P := h
theorem z1t (h : P := by have := hp.nf; omega) : P := h
theorem z42 (h : P := by simp [*, SIMB, a9n, a6i, c1y, b7w, b0h, A0u]) : P := h
theorem z1b (h : P := by rw [h]) : P := h
theorem z2d (h : P := by assumption) : P := h
theorem z43 (h : P := by rw [g5f, hr, A2j, A5n hi]; simp) : P := h
theorem z1p (h : P := by simpa using e) : P := h
theorem z44 (h : P := by rw [e0]; exact A1o _ (A2f _ A3r)) : P := h
theorem zh (h : P := by rw [IntKind.wrap_i64]; omega) : P := h
theorem z1j (h : P := by intro e; simp only [A1q] at e; omega) : P := h
theorem z45 (h : P := by rw [A5n hvl] at hM; simpa using hM) : P := h
theorem z2v (h : P := by rw [A5n (by omega)] at hl; simpa using hl) : P := h
theorem z47 (h : P := by rw [A5n (by omega)] at hgm; exact A5o hgm) : P := h
theorem z48 (h : P := by simp [*, SIMB, a0u, a0i, a4o, a4f, a0o, c1a, f0n, a0g, c9m, d6p, d8r, c2e, ren, inn, bk, inH]) : P := h
theorem z3b (h : P := by rw [hrl, hvv]; rintro (h | h); exact absurd h (by decide); exact hg h.2) : P := h
theorem z3c (h : P := by rw [hrl]; rintro (h | h); exact ha h; exact hb h.1) : P := h
theorem z2w (h : P := by simp [nls, nl, d7o, a0g]) : P := h
theorem z2x (h : P := by simp [*, SIMB, a8z, b1s, hB.fr, a1q, a0j, a0v, a6r, z1u]) : P := h
theorem z2n (h : P := by rw [A0j]; omega) : P := h
theorem z49 (h : P := by simp [*, SIMB, a8z, b1s, hB.fr, a1q, a0j, a0v, a6r, z1u, a0y, hB.f1, hB.f3]) : P := h
theorem z2e (h : P := by simp [HPXB, fB, yu]) : P := h
theorem z2q (h : P := by simp only [wrI]; rw [a7u] at hm; first | exact .inl ⟨by omega, hm⟩ | exact .inr ⟨by omega, hm⟩) : P := h
theorem z2z (h : P := by simp [a0o]) : P := h
theorem y7 (h : P := by rw [q]; decide) : P := h
theorem z4b (h : P := by simpa [putRow, mapBlock, Sort.ahead] using X.out.2.2.1) : P := h
theorem z2f (h : P := by simp [asRs, asR]) : P := h
theorem z30 (h : P := by first | rfl | (simp [ninL, ninO, a1h, nins, nin, z1o, a1i, a0g, d0e, b8s, b1u, c7j, a9a, HPXB, nB, *]; done)) : P := h
theorem z3n (h : P := by have := hI.b; rw [q] at this; exact this) : P := h
theorem z4d (h : P := by first | (simp [ninL, ninO, a1h, nins, nin, z1o, a1i, a0g, a5j, d0e, b8s, b1u, c7j, a9a, HPXB, *]; done)) : P := h
theorem z3q (h : P := by rw [A1l]; omega) : P := h
theorem z35 (h : P := by rw [a8o]; exact hv) : P := h
theorem z4g (h : P := by rw [e]; unfold a7i; rw [if_neg]; rintro ⟨f, hf, i, hb⟩; exact hnb f hf (by omega) i hb) : P := h
theorem z2h (h : P := by rw [a7f]; exact hi) : P := h
theorem z3s (h : P := by simp [*, SIMB, z0v, fB, f71, f72, fz, fzs, fzss, fzO, fzT, fze, z0y]) : P := h
theorem z3t (h : P := by simp [*, SIMB, fB, f71, f72, fz, fzs, fzss, fzO, fzT, fze, z0y]) : P := h
theorem z36 (h : P := by simp [*, SIMB, fz, fzs, fzss, fzO, fzT, fze, z0y]) : P := h
theorem z4i (h : P := by rw [A5n hvl] at hmY; simpa using hmY) : P := h
theorem z1m (h : P := by simp [a0t]; omega) : P := h
theorem z3y (h : P := by simpa [Value.cells] using hn) : P := h
end
namespace Go.FM
open Go
variable {T t : TypeId} {n sz : Nat} {v : Value}
abbrev Loc := List Nat
variable {l : Loc}
inductive FV where
 | undef
 | int (k : IntKind) (n : Int)
 | bool (b : Bool)
 | str (s : ByteArray)
 | list (sz : Nat) (xs : List (List FV))
 | ref (cs : List FV)
 | agg (cs : List FV)
 | tup (vs : List FV)
 | ptr (l : Loc) (sz i off : Nat)
 | nilp
 | sl (l : Loc) (sz off len : Nat)
 | nils
 | mp (l : Loc)
 | nilm
 | clo (f : FuncId) (first caps : List FV)
 | nilf
 | emp
 deriving Inhabited
variable {x y : FV} {xs : List (List FV)}
inductive FO where
 | cells (T : TypeId) (sz : Nat) (xs : List (List FV))
 | map (es : List (FV × FV × Nat)) (clk : Nat)
 | iter (x : FV) (since : Nat) (seen : List Nat) (last : Nat)
 | dead
 deriving Inhabited
abbrev Heap := Loc -> Option FO
mutual
inductive RF (w : World) (F : Nat -> Prop) (U : Loc -> Prop) (m : Loc -> Nat × Nat) : FV -> Value -> Prop
 | undef (v : Value) : RF w F U m .undef v
 | int (k : IntKind) (n : Int) : RF w F U m (.int k n) (.int k n)
 | bool (b : Bool) : RF w F U m (.bool b) (.bool b)
 | str (s : ByteArray) : RF w F U m (.str s) (.string s)
 | list (sz : Nat) (xs : List (List FV)) (A : Option Addr) (cap : Nat) (vs : List Value) (hl : ∀ x ∈ xs, x.length = sz) (hc : xs.length <= cap)
  (hm : xs ≠ [] -> ∃ a, A = some a /\ F a.block /\ ∀ (j : Nat) (v : Value), vs[j]? = some v -> w.cell? (a.add j) = some v)
  (h : RFs w F U m xs.flatten vs) : RF w F U m (.list sz xs) (.slice A xs.length cap)
 | ref (cs : List FV) (a : Addr) (vs : List Value) (hF : F a.block) (hm : ∀ (j : Nat) (v : Value), vs[j]? = some v -> w.cell? (a.add j) = some v)
  (h : RFs w F U m cs vs) : RF w F U m (.ref cs) (.pointer (some a))
 | agg (cs : List FV) (vs : List Value) (h : RFs w F U m cs vs) : RF w F U m (.agg cs) (.agg vs.toArray)
 | tup (cs : List FV) (vs : List Value) (h : RFs w F U m cs vs) : RF w F U m (.tup cs) (.tuple vs.toArray)
 | ptr (l : Loc) (sz i off : Nat) (hu : U l) : RF w F U m (.ptr l sz i off) (.pointer (some ⟨(m l).1, i * sz + off, none⟩))
 | nilp : RF w F U m .nilp (.pointer none)
 | sl (l : Loc) (sz off len cap o : Nat) (hu : U l) (hc : len <= cap) (ho : cap = 0 \/ o = off * sz) (hs : (off + cap) * sz <= (m l).2) : RF w F U m (.sl l sz off len) (.slice (some ⟨(m l).1, o, none⟩) len cap)
 | sl0 (l : Loc) (sz off : Nat) (A : Option Addr) (hu : U l) (h0 : (m l).2 = 0) : RF w F U m (.sl l sz off 0) (.slice A 0 0)
 | nils : RF w F U m .nils (.slice none 0 0)
 | mp (l : Loc) (hu : U l) : RF w F U m (.mp l) (.map (some (m l).1))
 | nilm : RF w F U m .nilm (.map none)
 | clo (f : FuncId) (first caps : List FV) (us vs : List Value) (h1 : RFs w F U m first us) (h2 : RFs w F U m caps vs) : RF w F U m (.clo f first caps) (.func (.func f) us.toArray vs.toArray)
 | nilf : RF w F U m .nilf .nilFunc
 | emp (A : Option Addr) : RF w F U m .emp (.slice A 0 0)
inductive RFs (w : World) (F : Nat -> Prop) (U : Loc -> Prop) (m : Loc -> Nat × Nat) : List FV -> List Value -> Prop
 | nil : RFs w F U m [] []
 | cons (a : FV) (v : Value) (as : List FV) (vs : List Value) (h : RF w F U m a v) (hs : RFs w F U m as vs) : RFs w F U m (a :: as) (v :: vs)
end
theorem a6o (a : Addr) (n : Nat) : (a.add n).block = a.block := by unfold Addr.add; split <;> rfl
theorem b8j (a : Addr) (i j : Nat) : (a.add i).add j = a.add (i + j) := by
 unfold Addr.add
 by_cases hi : i = 0 <;> by_cases hj : j = 0 <;> simp [hi, hj, A4m]
theorem add0 (g o k : Nat) : (⟨g, o, none⟩ : Addr).add k = ⟨g, o + k, none⟩ := by
 unfold Addr.add; split <;> simp_all
section
variable {w w' : World} {F F' : Nat -> Prop} {U U' : Loc -> Prop} {m m' : Loc -> Nat × Nat}
mutual
theorem RF.keep {a : FV} {v : Value} (h : RF w F U m a v) (hF : ∀ b, F b -> F' b) (hb : ∀ b, F b -> w'.heap[b]? = w.heap[b]?) (hU : ∀ l, U l -> U' l) (hm : ∀ l, U l -> m' l = m l) : RF w' F' U' m' a v :=
 match h with
 | .undef v => .undef v
 | .int k n => .int k n
 | .bool b => .bool b
 | .str s => .str s
 | .list sz xs A cap vs hl hc hm' h =>
   .list sz xs A cap vs hl hc (fun hne => by
    obtain ⟨a, hA, hFa, hcell⟩ := hm' hne
    exact ⟨a, hA, hF _ hFa, fun j v hv => (World.cell?_of_block (by rw [a6o]; exact hb _ hFa)).trans (hcell j v hv)⟩)
    (RFs.keep h hF hb hU hm)
 | .ref cs a vs hFa hc h => .ref cs a vs (hF _ hFa) (fun j v hv => (World.cell?_of_block (by rw [a6o]; exact hb _ hFa)).trans (hc j v hv)) (RFs.keep h hF hb hU hm)
 | .agg cs vs h => .agg cs vs (RFs.keep h hF hb hU hm)
 | .tup cs vs h => .tup cs vs (RFs.keep h hF hb hU hm)
 | .ptr l sz i off hu => by rw [<- hm l hu]; exact .ptr l sz i off (hU l hu)
 | .nilp => .nilp
 | .sl l sz off len cap o hu hc ho hs => by rw [<- hm l hu]; exact .sl l sz off len cap o (hU l hu) hc ho (by rw [hm l hu]; exact hs)
 | .sl0 l sz off A hu h0 => .sl0 l sz off A (hU l hu) (by rw [hm l hu]; exact h0)
 | .nils => .nils
 | .mp l hu => by rw [<- hm l hu]; exact .mp l (hU l hu)
 | .nilm => .nilm
 | .clo f first caps us vs h1 h2 => .clo f first caps us vs (RFs.keep h1 hF hb hU hm) (RFs.keep h2 hF hb hU hm)
 | .nilf => .nilf
 | .emp A => .emp A
theorem RFs.keep {as : List FV} {vs : List Value} (h : RFs w F U m as vs) (hF : ∀ b, F b -> F' b) (hb : ∀ b, F b -> w'.heap[b]? = w.heap[b]?) (hU : ∀ l, U l -> U' l) (hm : ∀ l, U l -> m' l = m l) : RFs w' F' U' m' as vs :=
 match h with
 | .nil => .nil
 | .cons a v as vs h hs => .cons a v as vs (RF.keep h hF hb hU hm) (RFs.keep hs hF hb hU hm)
end
theorem RFs.length {as : List FV} {vs : List Value} (h : RFs w F U m as vs) : as.length = vs.length := by
 match h with
 | .nil => rfl
 | .cons a v as vs h hs => simp [RFs.length hs]
theorem RFs.append {as as' : List FV} {vs vs' : List Value} (h : RFs w F U m as vs) (h' : RFs w F U m as' vs') : RFs w F U m (as ++ as') (vs ++ vs') := by
 match h with
 | .nil => exact h'
 | .cons a v as vs h hs => exact .cons a v _ _ h (RFs.append hs h')
theorem RFs.get {as : List FV} {vs : List Value} (h : RFs w F U m as vs) (k : Nat) {c : FV} (hk : as[k]? = some c) : ∃ v, vs[k]? = some v /\ RF w F U m c v := by
 match h with
 | .nil => simp at hk
 | .cons a v as vs h hs =>
   match k with
   | 0 => simp at hk; subst hk; exact ⟨v, by simp, h⟩
   | k + 1 =>
     obtain ⟨u, h1, h2⟩ := RFs.get hs k (c := c) (by simpa using hk)
     exact ⟨u, by simpa using h1, h2⟩
theorem RFs.set {as : List FV} {vs : List Value} (h : RFs w F U m as vs) (k : Nat) {c : FV} {v : Value} (hc : RF w F U m c v) : RFs w F U m (as.set k c) (vs.set k v) := by
 match h with
 | .nil => simpa using RFs.nil
 | .cons a u as vs h hs =>
   match k with
   | 0 => simpa using RFs.cons c v as vs hc hs
   | k + 1 => simpa using RFs.cons a u _ _ h (RFs.set hs k hc)
theorem RFs.take {as : List FV} {vs : List Value} (h : RFs w F U m as vs) (n : Nat) : RFs w F U m (as.take n) (vs.take n) := by
 match h with
 | .nil => simpa using RFs.nil
 | .cons a v as vs h hs =>
   match n with
   | 0 => simpa using RFs.nil
   | n + 1 => simpa using RFs.cons a v _ _ h (RFs.take hs n)
theorem RFs.drop {as : List FV} {vs : List Value} (h : RFs w F U m as vs) (n : Nat) : RFs w F U m (as.drop n) (vs.drop n) := by
 match h with
 | .nil => simpa using RFs.nil
 | .cons a v as vs h hs =>
   match n with
   | 0 => simpa using RFs.cons a v as vs h hs
   | n + 1 => simpa using RFs.drop hs n
theorem RFs.part (as as' : List FV) {vs : List Value} (h : RFs w F U m (as ++ as') vs) : ∃ v1 v2, vs = v1 ++ v2 /\ RFs w F U m as v1 /\ RFs w F U m as' v2 := by
 match as with
 | [] => exact ⟨[], vs, rfl, .nil, h⟩
 | a :: as =>
   match h with
   | .cons _ v _ vs h hs =>
     obtain ⟨v1, v2, rfl, h1, h2⟩ := RFs.part as as' hs
     exact ⟨v :: v1, v2, rfl, .cons a v _ _ h h1, h2⟩
theorem RFs.single {vs : List Value} (h : RFs w F U m [x] vs) : ∃ v, vs = [v] /\ RF w F U m x v := by
 cases h with
 | cons _ v _ vs h1 h2 =>
 cases h2
 exact ⟨v, rfl, h1⟩
structure RE (w : World) (F : Nat -> Prop) (U : Loc -> Prop) (m : Loc -> Nat × Nat) (e : FV × FV × Nat) (x : MapEntry) : Prop where
 key : RF w F U m e.1 x.key
 val : RF w F U m e.2.1 x.val
 born : x.born = e.2.2
inductive REs (w : World) (F : Nat -> Prop) (U : Loc -> Prop) (m : Loc -> Nat × Nat) : List (FV × FV × Nat) -> List MapEntry -> Prop
 | nil : REs w F U m [] []
 | cons (e : FV × FV × Nat) (x : MapEntry) (es : List (FV × FV × Nat)) (xs : List MapEntry) (h : RE w F U m e x) (hs : REs w F U m es xs) : REs w F U m (e :: es) (x :: xs)
theorem RE.keep {e : FV × FV × Nat} {x : MapEntry} (h : RE w F U m e x) (hF : ∀ b, F b -> F' b) (hb : ∀ b, F b -> w'.heap[b]? = w.heap[b]?) (hU : ∀ l, U l -> U' l) (hm : ∀ l, U l -> m' l = m l) : RE w' F' U' m' e x :=
 ⟨h.key.keep hF hb hU hm, h.val.keep hF hb hU hm, h.born⟩
theorem REs.keep {es : List (FV × FV × Nat)} {xs : List MapEntry} (h : REs w F U m es xs) (hF : ∀ b, F b -> F' b) (hb : ∀ b, F b -> w'.heap[b]? = w.heap[b]?) (hU : ∀ l, U l -> U' l) (hm : ∀ l, U l -> m' l = m l) : REs w' F' U' m' es xs := by
 match h with
 | .nil => exact .nil
 | .cons e x es xs h hs => exact .cons e x es xs (h.keep hF hb hU hm) (REs.keep hs hF hb hU hm)
theorem REs.length {es : List (FV × FV × Nat)} {xs : List MapEntry} (h : REs w F U m es xs) : es.length = xs.length := by
 match h with
 | .nil => rfl
 | .cons e x es xs h hs => simp [REs.length hs]
theorem REs.append {es es' : List (FV × FV × Nat)} {xs xs' : List MapEntry} (h : REs w F U m es xs) (h' : REs w F U m es' xs') : REs w F U m (es ++ es') (xs ++ xs') := by
 match h with
 | .nil => exact h'
 | .cons e x es xs h hs => exact .cons e x _ _ h (REs.append hs h')
def OR (w : World) (F : Nat -> Prop) (H : Heap) (m : Loc -> Nat × Nat) (l : Loc) : FO -> Prop
 | .cells T sz xs => (xs = [] /\ (m l).2 = 0) \/ ((m l).2 ≠ 0 /\ ∃ (c : Array Value), w.heap[(m l).1]? = some (.cells c T (0, 0)) /\ c.size = (m l).2 /\ (∀ x ∈ xs, x.length = sz) /\ xs.length * sz <= c.size /\
  RFs w F (fun l => H l ≠ none) m xs.flatten (c.toList.take (xs.length * sz)))
 | .map es clk => (m l).2 ≠ 0 /\ ∃ (a : Array MapEntry), w.heap[(m l).1]? = some (.map a clk) /\ REs w F (fun l => H l ≠ none) m es a.toList
 | .iter x since seen last => (m l).2 ≠ 0 /\ ∃ q, RF w F (fun l => H l ≠ none) m x (.map q) /\ w.heap[(m l).1]? = some (.mapIter q since seen.toArray last)
 | .dead => True
def Live (H : Heap) (m : Loc -> Nat × Nat) (l : Loc) : Prop := ∃ o, H l = some o /\ o ≠ .dead /\ (m l).2 ≠ 0
theorem OR.keep {H H' : Heap} {l l' : Loc} {o : FO} (h : OR w F H m l o) (hF : ∀ b, F b -> F' b) (hb : ∀ b, F b -> w'.heap[b]? = w.heap[b]?) (hU : ∀ k, H k ≠ none -> H' k ≠ none) (hm : ∀ k, H k ≠ none -> m' k = m k) (hl : m' l' = m l)
 (hw : o ≠ .dead -> (m l).2 ≠ 0 -> w'.heap[(m l).1]? = w.heap[(m l).1]?) : OR w' F' H' m' l' o := by
 cases o with
 | cells T sz xs =>
   simp only [OR, hl] at h ⊢
   rcases h with h1 | ⟨h0, c, h1, h2, h3, h4, h5⟩
   . exact .inl h1
   . exact .inr ⟨h0, c, (hw yd h0).trans h1, h2, h3, h4, h5.keep hF hb hU hm⟩
 | map es clk =>
   simp only [OR, hl] at h ⊢
   obtain ⟨h0, b, h1, h2⟩ := h
   exact ⟨h0, b, (hw yd h0).trans h1, h2.keep hF hb hU hm⟩
 | iter x since seen last =>
   simp only [OR, hl] at h ⊢
   obtain ⟨h0, q, h1, h2⟩ := h
   exact ⟨h0, q, h1.keep hF hb hU hm, (hw yd h0).trans h2⟩
 | dead => trivial
structure HeapR (w : World) (F : Nat -> Prop) (m : Loc -> Nat × Nat) (H : Heap) : Prop where
 obj : ∀ l o, H l = some o -> OR w F H m l o
 inj : ∀ l l', Live H m l -> Live H m l' -> (m l).1 = (m l').1 -> l = l'
 old : ∀ l, Live H m l -> (m l).1 < w.heap.size /\ ¬ F (m l).1
end
abbrev LF := List (Loc × FO)
abbrev Asg := List (Nat × FV)
def lk : Asg -> Nat -> FV
 | [], _ => .undef
 | (k, v) :: r, t => if k = t then v else lk r t
structure Fs where
 vars : List FV
 tm : Asg
 H : Heap
 ix : List Nat
def Fs.get (s : Fs) (t : Nat) : FV := if t < s.vars.length then s.vars.getD t .undef else lk s.tm t
def Fs.put (s : Fs) (t : Nat) (v : FV) : Fs := if t < s.vars.length then { s with vars := s.vars.set t v } else { s with tm := (t, v) :: s.tm }
def upd (H : Heap) (l : Loc) (o : FO) : Heap := fun k => if k = l then some o else H k
def FV.isU : FV -> Bool
 | .undef => true
 | _ => false
theorem d7z (l : Asg) (d t : Nat) (x : FV) : lk ((d, x) :: l) t = if d = t then x else lk l t := rfl
theorem b3o (s : Fs) (d t : Nat) (x : FV) : (s.put d x).get t = if t = d then x else s.get t := by
 unfold Fs.put
 split
 . rename_i h
   simp only [Fs.get, A0h]
   by_cases e : t = d
   . subst e; simp [h]
   . simp only [e, if_false]
     split
     . rw [A5m, A5m, A4d (A4f e)]
     . rfl
 . rename_i h
   simp only [Fs.get]
   by_cases e : t = d
   . subst e; simp [h, d7z]
   . simp only [e, if_false, d7z, A4f e]
theorem b4y (s : Fs) (d : Nat) (x : FV) : (s.put d x).vars.length = s.vars.length := by
 unfold Fs.put; split <;> simp
theorem c2p (s : Fs) (d : Nat) (x : FV) : (s.put d x).H = s.H := by
 unfold Fs.put; split <;> rfl
theorem f0b (s : Fs) (d : Nat) (x : FV) : (s.put d x).ix = s.ix := by
 unfold Fs.put; split <;> rfl
theorem e6j (a : Act) (d t : Nat) (v : Value) (hd : d < a.tmps.size) : (a.put (some d) v).tmps.getD t undef = if t = d then v else a.tmps.getD t undef := by
 simp only [Act.put, A2x]
 by_cases e : t = d
 . subst e; simp [hd]
 . rw [Array.getElem?_setIfInBounds_ne (A4f e)]; simp [e]
theorem b0b (a : Act) (d : Option Tmp) (v : Value) : (a.put d v).tmps.size = a.tmps.size := by cases d <;> simp [Act.put]
structure Cfg where
 N : Nat
 keep : List Nat
 nm : Nat -> List Nat -> Loc
 G : List (Nat × List Value) := []
 L : Loc -> Prop := fun _ => True
structure Ctx where
 w0 : World
 F0 : Nat -> Prop
 H0 : Heap
 m0 : Loc -> Nat × Nat
def Ctx.lent (X : Ctx) (b : Nat) : Prop := ∃ l, Live X.H0 X.m0 l /\ (X.m0 l).1 = b
structure RelX (X : Ctx) (F : Nat -> Prop) (m : Loc -> Nat × Nat) (s : Fs) (a : Act) (w : World) : Prop where
 df : a.defers = []
 vsz : s.vars.length <= a.tmps.size
 val : ∀ t, RF w F (fun l => s.H l ≠ none) m (s.get t) (a.tmps.getD t undef)
 heap : HeapR w F m s.H
 own : ∀ l, Live s.H m l -> X.lent (m l).1 \/ X.w0.heap.size <= (m l).1
 ext : ∀ l, X.H0 l ≠ none -> s.H l ≠ none
 mfix : ∀ l, X.H0 l ≠ none -> m l = X.m0 l
 frz : ∀ b, F b -> b < w.heap.size
 keep : ∀ b, b < X.w0.heap.size -> ¬ X.lent b -> w.heap[b]? = X.w0.heap[b]?
 size : X.w0.heap.size <= w.heap.size
 os : w.os = X.w0.os
 tape : w.tape = X.w0.tape
 output : w.output = X.w0.output
def a5g (G : List (Nat × List Value)) (F : Nat -> Prop) (w : World) : Prop := ∀ p ∈ G, F p.1 /\ p.1 < w.heap.size /\ ∀ j v, p.2[j]? = some v -> w.cell? ⟨p.1, j, none⟩ = some v
structure FX (c : Cfg) (X : Ctx) (F : Nat -> Prop) : Prop where
 up : ∀ y, X.F0 y -> F y
 gl : a5g c.G X.F0 X.w0
 nl : ∀ p ∈ c.G, ¬ X.lent p.1
 hd : ∀ l, X.H0 l ≠ none -> c.L l
def Rel (X : Ctx) (c : Cfg) (s : Fs) (a : Act) (w : World) : Prop :=
 a.tmps.size = c.N /\ ∃ F m, FX c X F /\ (∀ y, F y -> X.F0 y \/ X.w0.heap.size <= y) /\ RelX X F m s a w
section
variable {X : Ctx} {c : Cfg} {w w' : World} {F F' : Nat -> Prop} {m m' : Loc -> Nat × Nat} {s s' : Fs} {a a' : Act}
theorem a5g.mono {G : List (Nat × List Value)} (h : a5g G F w) (hF : ∀ p ∈ G, F p.1 -> F' p.1) : a5g G F' w := fun p hp => ⟨hF p hp (h p hp).1, (h p hp).2⟩
theorem a5g.nil : a5g [] F w := fun _ h => by cases h
theorem FX.here (hx : FX c X F) (h : RelX X F m s a w) : a5g c.G F w := fun p hp => by
 obtain ⟨h1, h2, h3⟩ := hx.gl p hp
 exact ⟨hx.up _ h1, A2b h2 h.size, fun j v hv => (World.cell?_of_block (h.keep p.1 h2 (hx.nl p hp))).trans (h3 j v hv)⟩
theorem FX.more (hx : FX c X F) (hF : ∀ y, F y -> F' y) : FX c X F' := ⟨fun y hy => hF y (hx.up y hy), hx.gl, hx.nl, hx.hd⟩
theorem RelX.put (h : RelX X F m s a w) {d : Nat} (hd : d < a.tmps.size) (hx : RF w F (fun l => s.H l ≠ none) m x v) : RelX X F m (s.put d x) (a.put (some d) v) w :=
 { h with
   vsz := by rw [b4y, b0b]; exact h.vsz
   val := fun t => by
    rw [b3o, e6j _ _ _ _ hd, c2p]
    split
    . exact hx
    . exact h.val t
   heap := by rw [c2p]; exact h.heap
   own := by rw [c2p]; exact h.own
   ext := by rw [c2p]; exact h.ext }
theorem RelX.world (h : RelX X F m s a w) (hsz : w.heap.size <= w'.heap.size) (hw : ∀ b, b < w.heap.size -> w'.heap[b]? = w.heap[b]?) (hos : w'.os = w.os) (htape : w'.tape = w.tape) (hout : w'.output = w.output) :
 RelX X F m s a w' := by
 have hF : ∀ b, F b -> w'.heap[b]? = w.heap[b]? := fun b hb => hw b (h.frz b hb)
 refine { df := h.df, vsz := h.vsz, val := fun t => (h.val t).keep (fun _ h => h) hF (fun _ h => h) (fun _ _ => rfl), heap := ⟨fun l o ho => ?_, h.heap.inj, fun l hl => ?_⟩, own := h.own, ext := h.ext, mfix := h.mfix, frz := fun b hb => ?_, keep := fun b hb hn => ?_, size := A0a h.size hsz, os := hos.trans h.os, tape := htape.trans h.tape, output := hout.trans h.output }
 . exact (h.heap.obj l o ho).keep (fun _ h => h) hF (fun _ h => h) (fun _ _ => rfl) rfl (fun hd h0 => hw _ (h.heap.old l ⟨o, ho, hd, h0⟩).1)
 . have := h.heap.old l hl; exact ⟨by omega, this.2⟩
 . have := h.frz b hb; omega
 . rw [hw b z2b]; exact h.keep b hb hn
theorem RelX.write (h : RelX X F m s a w) {o0 o : FO} (hl : s.H l = some o0) (hlive : Live s.H m l) (hne : o ≠ .dead)
 (hsz : w.heap.size <= w'.heap.size) (hw : ∀ b, b < w.heap.size -> b ≠ (m l).1 -> w'.heap[b]? = w.heap[b]?) (hos : w'.os = w.os) (htape : w'.tape = w.tape) (hout : w'.output = w.output)
 (ho : OR w' F (upd s.H l o) m l o) : RelX X F m { s with H := upd s.H l o } a w' := by
 have hU : ∀ k, s.H k ≠ none -> upd s.H l o k ≠ none := fun k hk => by unfold upd; split <;> simp [hk]
 have hlF : ¬ F (m l).1 := (h.heap.old l hlive).2
 have hF : ∀ b, F b -> w'.heap[b]? = w.heap[b]? := fun b hb => hw b (h.frz b hb) (fun e => hlF (e ▸ hb))
 have hupd : ∀ k, k ≠ l -> upd s.H l o k = s.H k := fun k hk => by simp [upd, hk]
 have hself : upd s.H l o l = some o := by simp [upd]
 have hLive : ∀ k, Live (upd s.H l o) m k -> Live s.H m k := fun k ⟨o', h1, h2, h3⟩ => by
  by_cases e : k = l
  . subst e; exact hlive
  . rw [hupd k e] at h1; exact ⟨o', h1, h2, h3⟩
 refine { df := h.df, vsz := h.vsz, val := fun t => (h.val t).keep (fun _ h => h) hF hU (fun _ _ => rfl), heap := ⟨fun k ok hk => ?_, fun k k' hk hk' e => h.heap.inj k k' (hLive k hk) (hLive k' hk') e, fun k hk => ?_⟩, own := fun k hk => h.own k (hLive k hk), ext := fun k hk => hU k (h.ext k hk), mfix := h.mfix, frz := fun b hb => ?_, keep := fun b hb hn => ?_, size := A0a h.size hsz, os := hos.trans h.os, tape := htape.trans h.tape, output := hout.trans h.output }
 . have hk : upd s.H l o k = some ok := hk
   show OR w' F (upd s.H l o) m k ok
   by_cases e : k = l
   . subst e
     rw [hself] at hk
     obtain rfl := A5o hk
     exact ho
   . rw [hupd k e] at hk
     exact (h.heap.obj k ok hk).keep (fun _ h => h) hF hU (fun _ _ => rfl) rfl (fun hd h0 => hw _ (h.heap.old k ⟨ok, hk, hd, h0⟩).1 fun e' => e (h.heap.inj k l ⟨ok, hk, hd, h0⟩ hlive e'))
 . have := h.heap.old k (hLive k hk); exact ⟨by omega, this.2⟩
 . have := h.frz b hb; omega
 . have hb' : b ≠ (m l).1 := fun e => by
    rcases h.own l hlive with h1 | h1
    . exact hn (e ▸ h1)
    . omega
   rw [hw b z2b hb']; exact h.keep b hb hn
theorem RelX.fresh (h : RelX X F m s a w) {o : FO} (hl : s.H l = none)
 (hsz : w.heap.size < w'.heap.size) (hw : ∀ b, b < w.heap.size -> w'.heap[b]? = w.heap[b]?) (hos : w'.os = w.os) (htape : w'.tape = w.tape) (hout : w'.output = w.output)
 (ho : OR w' F (upd s.H l o) (fun k => if k = l then (w.heap.size, n) else m k) l o) :
 RelX X F (fun k => if k = l then (w.heap.size, n) else m k) { s with H := upd s.H l o } a w' := by
 have h1 := h.world (A2e hsz) hw hos htape hout
 have hU : ∀ k, s.H k ≠ none -> upd s.H l o k ≠ none := fun k hk => by unfold upd; split <;> simp [hk]
 have hm : ∀ k, s.H k ≠ none -> (if k = l then (w.heap.size, n) else m k) = m k := fun k hk => by
  have : k ≠ l := fun e => hk (e ▸ hl)
  rw [if_neg this]
 have hupd : ∀ k, k ≠ l -> upd s.H l o k = s.H k := fun k hk => by simp [upd, hk]
 have hself : upd s.H l o l = some o := by simp [upd]
 have hLive : ∀ k, k ≠ l -> Live (upd s.H l o) (fun k => if k = l then (w.heap.size, n) else m k) k -> Live s.H m k := fun k e ⟨o', g1, g2, g3⟩ => by
  rw [hupd k e] at g1
  have g3 : (if k = l then (w.heap.size, n) else m k).2 ≠ 0 := g3
  rw [if_neg e] at g3; exact ⟨o', g1, g2, g3⟩
 refine { df := h.df, vsz := h.vsz, val := fun t => (h1.val t).keep (fun _ h => h) (fun _ _ => rfl) hU hm, heap := ⟨fun k ok hk => ?_, fun k k' hk hk' e => ?_, fun k hk => ?_⟩, own := fun k hk => ?_, ext := fun k hk => hU k (h.ext k hk), mfix := fun k hk => (hm k (h.ext k hk)).trans (h.mfix k hk), frz := h1.frz, keep := h1.keep, size := h1.size, os := h1.os, tape := h1.tape, output := h1.output }
 . have hk : upd s.H l o k = some ok := hk
   show OR w' F (upd s.H l o) (fun k => if k = l then (w.heap.size, n) else m k) k ok
   by_cases e : k = l
   . subst e
     rw [hself] at hk
     obtain rfl := A5o hk
     exact ho
   . rw [hupd k e] at hk
     exact (h1.heap.obj k ok hk).keep (fun _ h => h) (fun _ _ => rfl) hU hm (if_neg e) (fun _ _ => rfl)
 . by_cases e1 : k = l <;> by_cases e2 : k' = l
   . rw [e1, e2]
   . exfalso
     have := (h.heap.old k' (hLive k' e2 hk')).1
     simp only [e1, e2, if_true, if_false] at e
     omega
   . exfalso
     have := (h.heap.old k (hLive k e1 hk)).1
     simp only [e1, e2, if_true, if_false] at e
     omega
   . simp only [e1, e2, if_false] at e
     exact h.heap.inj k k' (hLive k e1 hk) (hLive k' e2 hk') e
 . by_cases e : k = l
   . subst e
     simp only [if_true]
     exact ⟨hsz, fun hF => by have := h.frz _ hF; omega⟩
   . simp only [e, if_false]
     exact h1.heap.old k (hLive k e hk)
 . by_cases e : k = l
   . simp only [e, if_true]; exact .inr h.size
   . simp only [e, if_false]; exact h.own k (hLive k e hk)
theorem RelX.ghost0 (h : RelX X F m s a w) (hl : s.H l = none) : RelX X F (fun k => if k = l then (0, 0) else m k) { s with H := upd s.H l (.cells T sz []) } a w := by
 have hU : ∀ k, s.H k ≠ none -> upd s.H l (.cells T sz []) k ≠ none := fun k hk => by unfold upd; split <;> simp [hk]
 have hm : ∀ k, s.H k ≠ none -> (if k = l then (0, 0) else m k) = m k := fun k hk => by
  have : k ≠ l := fun e => hk (e ▸ hl)
  rw [if_neg this]
 have hupd : ∀ k, k ≠ l -> upd s.H l (.cells T sz []) k = s.H k := fun k hk => by simp [upd, hk]
 have hself : upd s.H l (.cells T sz []) l = some (.cells T sz []) := by simp [upd]
 have hLive : ∀ k, Live (upd s.H l (.cells T sz [])) (fun k => if k = l then (0, 0) else m k) k -> k ≠ l /\ Live s.H m k := fun k ⟨o', g1, g2, g3⟩ => by
  have g3 : (if k = l then ((0, 0) : Nat × Nat) else m k).2 ≠ 0 := g3
  by_cases e : k = l
  . rw [if_pos e] at g3; exact absurd rfl g3
  . rw [if_neg e] at g3; rw [hupd k e] at g1; exact ⟨e, o', g1, g2, g3⟩
 refine { df := h.df, vsz := h.vsz, val := fun t => (h.val t).keep (fun _ h => h) (fun _ _ => rfl) hU hm, heap := ⟨fun k ok hk => ?_, fun k k' hk hk' e => ?_, fun k hk => ?_⟩, own := fun k hk => ?_, ext := fun k hk => hU k (h.ext k hk), mfix := fun k hk => (hm k (h.ext k hk)).trans (h.mfix k hk), frz := h.frz, keep := h.keep, size := h.size, os := h.os, tape := h.tape, output := h.output }
 . have hk : upd s.H l (.cells T sz []) k = some ok := hk
   show OR w F (upd s.H l (.cells T sz [])) (fun k => if k = l then (0, 0) else m k) k ok
   by_cases e : k = l
   . subst e
     rw [hself] at hk
     obtain rfl := A5o hk
     exact .inl ⟨rfl, by simp⟩
   . rw [hupd k e] at hk
     exact (h.heap.obj k ok hk).keep (fun _ h => h) (fun _ _ => rfl) hU hm (if_neg e) (fun _ _ => rfl)
 . obtain ⟨e1, k1⟩ := hLive k hk
   obtain ⟨e2, k2⟩ := hLive k' hk'
   simp only [e1, e2, if_false] at e
   exact h.heap.inj k k' k1 k2 e
 . obtain ⟨e1, k1⟩ := hLive k hk
   simp only [e1, if_false]
   exact h.heap.old k k1
 . obtain ⟨e1, k1⟩ := hLive k hk
   simp only [e1, if_false]
   exact h.own k k1
theorem RelX.rename (h : RelX X F m s a w) {l' : Loc} (hl : s.H l = some (.cells T sz xs)) (hl' : s.H l' = none) :
 RelX X F (fun k => if k = l' then m l else m k) { s with H := upd (upd s.H l .dead) l' (.cells T sz xs) } a w := by
 have hll : l ≠ l' := fun e => by rw [e, hl'] at hl; cases hl
 have hval : ∀ k, upd (upd s.H l .dead) l' (.cells T sz xs) k = if k = l' then some (.cells T sz xs) else if k = l then some .dead else s.H k := fun k => rfl
 have hU : ∀ k, s.H k ≠ none -> upd (upd s.H l .dead) l' (.cells T sz xs) k ≠ none := fun k hk => by rw [hval]; split <;> (try split) <;> simp [hk]
 have hm : ∀ k, s.H k ≠ none -> (if k = l' then m l else m k) = m k := fun k hk => by
  have : k ≠ l' := fun e => hk (e ▸ hl')
  rw [if_neg this]
 -- the live names: the new one for the old one
 have hLive : ∀ k, Live (upd (upd s.H l .dead) l' (.cells T sz xs)) (fun k => if k = l' then m l else m k) k -> (k = l' /\ Live s.H m l) \/ (k ≠ l' /\ k ≠ l /\ Live s.H m k) := fun k ⟨o', g1, g2, g3⟩ => by
  have g3 : (if k = l' then m l else m k).2 ≠ 0 := g3
  rw [hval] at g1
  by_cases e : k = l'
  . rw [if_pos e] at g1 g3
    exact .inl ⟨e, _, hl, by simp, g3⟩
  . rw [if_neg e] at g1 g3
    by_cases e' : k = l
    . rw [if_pos e'] at g1
      exact absurd (A5o g1).symm g2
    . rw [if_neg e'] at g1
      exact .inr ⟨e, e', o', g1, g2, g3⟩
 refine { df := h.df, vsz := h.vsz, val := fun t => (h.val t).keep (fun _ h => h) (fun _ _ => rfl) hU hm, heap := ⟨fun k ok hk => ?_, fun k k' hk hk' e => ?_, fun k hk => ?_⟩, own := fun k hk => ?_, ext := fun k hk => hU k (h.ext k hk), mfix := fun k hk => (hm k (h.ext k hk)).trans (h.mfix k hk), frz := h.frz, keep := h.keep, size := h.size, os := h.os, tape := h.tape, output := h.output }
 . have hk : upd (upd s.H l .dead) l' (.cells T sz xs) k = some ok := hk
   show OR w F (upd (upd s.H l .dead) l' (.cells T sz xs)) (fun k => if k = l' then m l else m k) k ok
   rw [hval] at hk
   by_cases e : k = l'
   . rw [if_pos e] at hk
     obtain rfl := A5o hk
     exact (h.heap.obj l _ hl).keep (fun _ h => h) (fun _ _ => rfl) hU hm (if_pos e) (fun _ _ => rfl)
   . rw [if_neg e] at hk
     by_cases e' : k = l
     . rw [if_pos e'] at hk
       obtain rfl := A5o hk
       trivial
     . rw [if_neg e'] at hk
       exact (h.heap.obj k ok hk).keep (fun _ h => h) (fun _ _ => rfl) hU hm (if_neg e) (fun _ _ => rfl)
 . rcases hLive k hk with ⟨e1, k1⟩ | ⟨e1, e1', k1⟩ <;> rcases hLive k' hk' with ⟨e2, k2⟩ | ⟨e2, e2', k2⟩
   . rw [e1, e2]
   . simp only [e1, e2, if_true, if_false] at e
     exact absurd (h.heap.inj l k' k1 k2 e).symm e2'
   . simp only [e1, e2, if_true, if_false] at e
     exact absurd (h.heap.inj k l k1 k2 e) e1'
   . simp only [e1, e2, if_false] at e
     exact h.heap.inj k k' k1 k2 e
 . rcases hLive k hk with ⟨e1, k1⟩ | ⟨e1, e1', k1⟩
   . simp only [e1, if_true]; exact h.heap.old l k1
   . simp only [e1, if_false]; exact h.heap.old k k1
 . rcases hLive k hk with ⟨e1, k1⟩ | ⟨e1, e1', k1⟩
   . simp only [e1, if_true]; exact h.own l k1
   . simp only [e1, if_false]; exact h.own k k1
def HLe (H1 H : Heap) : Prop := ∀ l, H1 l = H l \/ H1 l = some .dead
def Fs.le (s1 s : Fs) : Prop := s1.vars.length = s.vars.length /\ (∀ t, s1.get t = .undef \/ s1.get t = s.get t) /\ HLe s1.H s.H
theorem RelX.weaken {s1 : Fs} (h : RelX X F m s a w) (hl : s1.le s) : RelX X F m s1 a w := by
 obtain ⟨hv, hg, hH⟩ := hl
 have hU : ∀ k, s.H k ≠ none -> s1.H k ≠ none := fun k hk => by rcases hH k with e | e <;> rw [e] <;> simp [hk]
 have hLive : ∀ k, Live s1.H m k -> Live s.H m k := fun k ⟨o, g1, g2, g3⟩ => by
  rcases hH k with e | e
  . exact ⟨o, e ▸ g1, g2, g3⟩
  . rw [e] at g1; exact absurd (A5o g1).symm g2
 refine { h with
  vsz := by rw [hv]; exact h.vsz
  val := fun t => ?_
  heap := ⟨fun l o ho => ?_, fun k k' hk hk' e => h.heap.inj k k' (hLive k hk) (hLive k' hk') e, fun k hk => h.heap.old k (hLive k hk)⟩
  own := fun k hk => h.own k (hLive k hk)
  ext := fun k hk => hU k (h.ext k hk) }
 . rcases hg t with e | e
   . rw [e]; exact .undef _
   . rw [e]; exact (h.val t).keep (fun _ h => h) (fun _ _ => rfl) hU (fun _ _ => rfl)
 . rcases hH l with e | e
   . exact (h.heap.obj l o (e ▸ ho)).keep (fun _ h => h) (fun _ _ => rfl) hU (fun _ _ => rfl) rfl (fun _ _ => rfl)
   . rw [e] at ho
     obtain rfl := A5o ho
     trivial
theorem Rel.weaken {s1 : Fs} (h : Rel X c s a w) (hl : s1.le s) : Rel X c s1 a w := by
 obtain ⟨hN, F, m, h1, h2, h3⟩ := h
 exact ⟨hN, F, m, h1, h2, h3.weaken hl⟩
end
def szT (P : Program) (t : TypeId) : Option Nat := (P.info? t).map (·.size)
def byT (P : Program) (t : TypeId) : Option Nat := (P.info? t).map (·.bytes)
def ldT (P : Program) (t : TypeId) : Option (Option Nat) := match P.underlying t with
 | some (.struct _) => (szT P t).map some
 | some (.array _ _) => (szT P t).map some
 | some _ => some none
 | none => none
def fldT (P : Program) (t : TypeId) (f : Nat) : Option Nat := match P.underlying t with
 | some (.struct fs) => match fs[f]? with
   | some x => match szT P x.type with
     | some 0 => none
     | some _ => some x.offset
     | none => none
   | none => none
 | _ => none
def intT (P : Program) (t : TypeId) : Option IntKind := match P.underlying t with | some (.int k) => some k | _ => none
def hasT (P : Program) (t : TypeId) : Bool := (P.underlying t).isSome
def slT (P : Program) (t : TypeId) : Option (TypeId × Nat) := match P.underlying t with
 | some (.slice e) => (szT P e).map fun n => (e, n)
 | _ => none
def arT (P : Program) (t : TypeId) : Option (Nat × Nat) := match P.underlying t with
 | some (.array n e) => (szT P e).map fun k => (n, k)
 | _ => none
def strT (P : Program) (t : TypeId) : Bool := match P.underlying t with | some .string => true | _ => false
def e8c (P : Program) (t : TypeId) : Bool := match P.underlying t with | some .bool => true | _ => false
section
variable {P : Program} {w : World}
theorem a2s (h : szT P t = some n) (w : World) : (sizeOf t).run P w = .ok n w := by
 unfold szT at h
 rw [A5q] at h
 obtain ⟨i, hi, rfl⟩ := h
 simp [sizeOf, typeInfo, hi]
theorem d1g {b : Nat} (h : byT P t = some b) : ∃ i, P.info? t = some i /\ i.bytes = b := by
 unfold byT at h
 rw [A5q] at h
 exact h
theorem e3t {i : TypeInfo} (h : szT P t = some n) (hi : P.info? t = some i) : i.size = n := by
 unfold szT at h
 rw [hi] at h
 simpa using h
theorem b6i {x : Option Nat} (h : ldT P t = some x) (w : World) : (isAgg t).run P w = .ok x.isSome w /\ ∀ n, x = some n -> szT P t = some n := by
 unfold ldT at h
 split at h
 . rename_i h1
   rw [A5q] at h
   obtain ⟨n, hn, rfl⟩ := h
   exact ⟨by simp [isAgg, run_underlying h1], by simpa using hn⟩
 . rename_i h1
   rw [A5q] at h
   obtain ⟨n, hn, rfl⟩ := h
   exact ⟨by simp [isAgg, run_underlying h1], by simpa using hn⟩
 . rename_i d n1 n2 h1
   obtain rfl := by simpa using h
   refine ⟨?_, by simp⟩
   simp only [isAgg, Sem.run_bind, run_underlying h1, Result.andThen_ok]
   cases d <;> first | rfl | (exfalso; exact n1 _ rfl) | (exfalso; exact n2 _ _ rfl)
 . cases h
theorem a3a {e : TypeId} (h : slT P t = some (e, n)) : P.underlying t = some (.slice e) /\ szT P e = some n := by
 unfold slT at h; split at h
 . rename_i h1
   rw [A5q] at h
   obtain ⟨m, hm, e⟩ := h
   simp only [A0i] at e
   obtain ⟨rfl, rfl⟩ := e
   exact ⟨h1, hm⟩
 . cases h
theorem c2k {k : Nat} (h : arT P t = some (n, k)) : ∃ e, P.underlying t = some (.array n e) /\ szT P e = some k := by
 unfold arT at h; split at h
 . rename_i n' e h1
   rw [A5q] at h
   obtain ⟨m, hm, e'⟩ := h
   simp only [A0i] at e'
   obtain ⟨rfl, rfl⟩ := e'
   exact ⟨e, h1, hm⟩
 . cases h
theorem d8l {k : IntKind} (h : intT P t = some k) : P.underlying t = some (.int k) := by
 unfold intT at h; split at h
 . rename_i h1; rw [h1]; simpa using h
 . cases h
theorem b2b (h : strT P t = true) : P.underlying t = some .string := by
 unfold strT at h; split at h
 . assumption
 . cases h
theorem d3q (h : e8c P t = true) : P.underlying t = some .bool := by
 unfold e8c at h; split at h
 . assumption
 . cases h
theorem c3e {st : TypeId} {f off : Nat} (h : fldT P st f = some off) (a : Addr) (w : World) : (Instr.fieldAt st (.pointer (some a)) f).run P w = .ok (.pointer (some (a.add off))) w := by
 unfold fldT at h
 split at h
 . rename_i fs h1
   split at h
   . rename_i x hx
     split at h
     . cases h
     . rename_i n hn0 hn
       obtain rfl := by simpa using h
       have hsz := a2s hn w
       have hne : n ≠ 0 := fun e => hn0 (by rw [e])
       simp [Instr.fieldAt, run_underlying h1, hx, Instr.sureAddr, fieldPlace, hsz, hne]
     . cases h
   . cases h
 . cases h
end
theorem d0q {α : Type} (sz : Nat) : ∀ (xs : List (List α)) (i off : Nat) (x : List α), (∀ x ∈ xs, x.length = sz) -> xs[i]? = some x -> off < sz -> xs.flatten[i * sz + off]? = x[off]?
 | [], _, _, _, _, h, _ => by simp at h
 | y :: ys, 0, off, x, hl, h, ho => by
   simp at h; subst h
   have := hl y yd
   rw [A0l, A4k, A3u, A0f ya]
 | y :: ys, i + 1, off, x, hl, h, ho => by
   have hy := hl y yd
   rw [A0l, A0k (by rw [hy, A1d]; omega)]
   have := d0q sz ys i off x (fun x hx => hl x wo) zl ho
   rw [<- this, hy, A1d]
   congr 1
   omega
theorem a3q {α : Type} (sz : Nat) : ∀ (xs : List (List α)), (∀ x ∈ xs, x.length = sz) -> xs.flatten.length = xs.length * sz
 | [], _ => by simp
 | y :: ys, hl => by
   have := a3q sz ys (fun x hx => hl x wo)
   rw [A0l, A0b, this, hl y yd, A1a, A1d]
   omega
theorem b7l {α : Type} (sz : Nat) : ∀ (xs : List (List α)) (i : Nat) (x : List α), (∀ x ∈ xs, x.length = sz) -> xs[i]? = some x -> (xs.flatten.drop (i * sz)).take sz = x
 | [], _, _, _, h => by simp at h
 | y :: ys, 0, x, hl, h => by
   simp at h; subst h
   have := hl y yd
   rw [A0l, A4k, List.drop_zero, <- this]
   simp
 | y :: ys, i + 1, x, hl, h => by
   have hy := hl y yd
   have := b7l sz ys i x (fun x hx => hl x wo) zl
   rw [A0l, A1d, A3b, A3v, <- A5i]
   rw [show (y ++ ys.flatten).drop sz = ys.flatten by rw [<- hy]; simp]
   exact this
section
variable {P : Program} {w : World} {F : Nat -> Prop} {m : Loc -> Nat × Nat} {H : Heap}
theorem a5a {w : World} {g : Nat} {c : Array Value} {fr : Nat × Nat} (hg : w.heap[g]? = some (.cells c T fr)) (k : Nat) : w.cell? ⟨g, k, none⟩ = c[k]? := by
 simp [World.cell?, hg]
theorem d5x (h : HeapR w F m H) {i : Nat} {x : List FV} (hl : H l = some (.cells T sz xs)) (hx : xs[i]? = some x) :
 x.length = sz /\ (m l).2 ≠ 0 /\ ∃ (c : Array Value) (vs : List Value), w.heap[(m l).1]? = some (.cells c T (0, 0)) /\ c.size = (m l).2 /\ (i + 1) * sz <= c.size /\ RFs w F (fun l => H l ≠ none) m x vs /\ ∀ j, j < sz -> vs[j]? = c[i * sz + j]? := by
 rcases h.obj l _ hl with ⟨rfl, _⟩ | ⟨h0, c, g1, g2, g3, g4, g5⟩
 . simp at hx
 . have hlen := g3 x (A1b hx)
   have hi : i < xs.length := by rw [A0q] at hx; exact hx.1
   have hmul : (i + 1) * sz <= xs.length * sz := A1z _ hi
   refine ⟨hlen, h0, c, ((c.toList.take (xs.length * sz)).drop (i * sz)).take sz, g1, g2, by omega, ?_, ?_⟩
   . have := (g5.drop (i * sz)).take sz
     rw [b7l sz xs i x g3 hx] at this
     exact this
   . intro j hj
     rw [A0p, if_pos hj, A2c, A0p, if_pos (by rw [A1d] at hmul; omega), A2m]
def b4s (P : Program) (H : Heap) (t : TypeId) (x : FV) : Option FV := match ldT P t with
 | none => none
 | some none => match x with
   | .ptr l sz i off => match H l with
     | some (.cells _ sz' xs) => if sz' = sz then (xs[i]?).bind (·[off]?) else none
     | _ => none
   | .ref (v :: _) => some v
   | _ => none
 | some (some 0) => match x with
   | .ptr .. => some (.agg [])
   | .ref _ => some (.agg [])
   | _ => none
 | some (some n) => match x with
   | .ptr l sz i off => match H l with
     | some (.cells _ sz' xs) => if sz' = sz then (xs[i]?).bind fun r => if off + n <= r.length then some (.agg ((r.drop off).take n)) else none else none
     | _ => none
   | .ref cs => if n <= cs.length then some (.agg (cs.take n)) else none
   | _ => none
theorem d0t (h : HeapR w F m H) (hs : b4s P H t x = some y) (hx : RF w F (fun l => H l ≠ none) m x v) :
 ∃ u, (Instr.loadAt t v).run P w = .ok u w /\ RF w F (fun l => H l ≠ none) m y u := by
 unfold b4s at hs
 split at hs
 . cases hs
 . rename_i ht
   obtain ⟨hagg, _⟩ := b6i ht w
   split at hs
   . rename_i l sz i off
     split at hs
     . rename_i T sz' xs hl
       split at hs
       . rename_i e; subst e
         rw [A1h] at hs
         obtain ⟨r, hr, hy⟩ := hs
         obtain ⟨hlen, h0, c, vs, g1, g2, g3, g4, g5⟩ := d5x h hl hr
         obtain ⟨u, hu, hru⟩ := g4.get off hy
         have hoff : off < sz' := by rw [<- hlen]; rw [A0q] at hy; exact hy.1
         rw [g5 off hoff] at hu
         cases hx
         refine ⟨u, ?_, hru⟩
         have hcell : w.cell? ⟨(m l).1, i * sz' + off, none⟩ = some u := by rw [a5a g1]; exact hu
         simp [Instr.loadAt, Instr.sureAddr, loadVar, hagg, hcell]
       . cases hs
     . cases hs
   . rename_i y' cs
     obtain rfl := by simpa using hs
     cases hx with
     | ref _ ad vs hF hm hvs =>
     obtain ⟨u, g1, g2⟩ := hvs.get 0 (c := y') rfl
     have hcell := hm 0 u g1
     have e0 : ad.add 0 = ad := by simp [Addr.add]
     rw [e0] at hcell
     exact ⟨u, by simp [Instr.loadAt, Instr.sureAddr, loadVar, hagg, hcell], g2⟩
   . cases hs
 . rename_i ht
   obtain ⟨hagg, hsz⟩ := b6i ht w
   have hsz := hsz 0 rfl
   have key : ∀ ad : Addr, (Instr.loadAt t (.pointer (some ad))).run P w = .ok (.agg #[]) w := fun ad => by
    have hld := run_loadCells_list (P := P) (w := w) ad [] (fun j v hj => by simp at hj)
    simp only [A3w] at hld
    simp [Instr.loadAt, Instr.sureAddr, loadVar, hagg, a2s hsz, hld]
   split at hs
   . obtain rfl := by simpa using hs
     cases hx
     exact ⟨_, key _, .agg [] [] .nil⟩
   . obtain rfl := by simpa using hs
     cases hx
     exact ⟨_, key _, .agg [] [] .nil⟩
   . cases hs
 . rename_i n _ ht
   obtain ⟨hagg, hsz⟩ := b6i ht w
   have hsz := hsz n rfl
   split at hs
   . rename_i l sz i off
     split at hs
     . rename_i T sz' xs hl
       split at hs
       . rename_i e; subst e
         rw [A1h] at hs
         obtain ⟨r, hr, hy⟩ := hs
         split at hy
         . rename_i hle
           obtain rfl := by simpa using hy
           obtain ⟨hlen, h0, c, vs, g1, g2, g3, g4, g5⟩ := d5x h hl hr
           have hvl : vs.length = sz' := by rw [<- g4.length]; exact hlen
           cases hx
           have hld := run_loadCells_list (P := P) (w := w) ⟨(m l).1, i * sz' + off, none⟩ ((vs.drop off).take n) (fun j v hj => by
            rw [add0, a5a g1, A4m, <- g5 (off + j) (by
             rw [A0p] at hj
             split at hj
             . omega
             . cases hj)]
            rw [A0p] at hj
            split at hj
            . rw [A2c] at hj; exact hj
            . cases hj)
           have hcl : ((vs.drop off).take n).length = n := by simp; omega
           rw [hcl] at hld
           refine ⟨.agg ((vs.drop off).take n).toArray, ?_, .agg _ _ ((g4.drop off).take n)⟩
           simp [Instr.loadAt, Instr.sureAddr, loadVar, hagg, a2s hsz, hld]
         . cases hy
       . cases hs
     . cases hs
   . rename_i cs
     split at hs
     . rename_i hle
       obtain rfl := by simpa using hs
       cases hx with
       | ref _ ad vs hF hm hvs =>
       have hvl := hvs.length
       have hld := run_loadCells_list (P := P) (w := w) ad (vs.take n) (fun j v hj => by
        rw [A0p] at hj
        split at hj
        . exact hm j v hj
        . cases hj)
       have hcl : (vs.take n).length = n := by simp; omega
       rw [hcl] at hld
       refine ⟨.agg (vs.take n).toArray, ?_, .agg _ _ (hvs.take n)⟩
       simp [Instr.loadAt, Instr.sureAddr, loadVar, hagg, a2s hsz, hld]
     . cases hs
   . cases hs
def b7s (P : Program) (st : TypeId) (x : FV) (f : Nat) : Option FV := match fldT P st f, x with
 | some off, .ptr l sz i o => some (.ptr l sz i (o + off))
 | some off, .ref cs => some (.ref (cs.drop off))
 | _, _ => none
theorem e0j {st : TypeId} {f : Nat} (hs : b7s P st x f = some y) (hx : RF w F (fun l => H l ≠ none) m x v) :
 ∃ u, (Instr.fieldAt st v f).run P w = .ok u w /\ RF w F (fun l => H l ≠ none) m y u := by
 unfold b7s at hs
 split at hs
 . rename_i off l sz i o ht
   obtain rfl := by simpa using hs
   cases hx with
   | ptr _ _ _ _ hu =>
   refine ⟨_, c3e ht _ w, ?_⟩
   rw [add0, A4m]
   exact .ptr l sz i (o + off) hu
 . rename_i off cs ht
   obtain rfl := by simpa using hs
   cases hx with
   | ref _ ad vs hF hm hvs =>
   exact ⟨_, c3e ht _ w, .ref _ _ (vs.drop off) (by rw [a6o]; exact hF) (fun j v hj => by rw [A2c] at hj; rw [b8j]; exact hm _ _ hj) (hvs.drop off)⟩
 . cases hs
def b7r (P : Program) (t : TypeId) (x i : FV) : Option FV := match i with
 | .int _ n => match slT P t, x with
   | some (_, sz), .list sz' xs => if decide (sz' = sz) && decide (0 <= n) then (xs[n.toNat]?).map .ref else none
   | some (_, sz), .sl l sz' off len => if decide (sz' = sz) && (decide (0 <= n) && decide (n < (len : Int))) then some (.ptr l sz (off + n.toNat) 0) else none
   | _, _ => match arT P t, x with
     | some (k, sz), .ptr l rs j o => if decide (0 <= n) && decide (n < (k : Int)) then some (.ptr l rs j (o + n.toNat * sz)) else none
     | some (k, sz), .ref cs => if decide (0 <= n) && decide (n < (k : Int)) then some (.ref (cs.drop (n.toNat * sz))) else none
     | _, _ => none
 | _ => none
theorem e0i {i : FV} {vi : Value} (hs : b7r P t x i = some y) (hx : RF w F (fun l => H l ≠ none) m x v) (hi : RF w F (fun l => H l ≠ none) m i vi) :
 ∃ u, (Instr.indexAt t v vi).run P w = .ok u w /\ RF w F (fun l => H l ≠ none) m y u := by
 unfold b7r at hs
 split at hs
 case h_2 => cases hs
 rename_i k n
 cases hi
 split at hs
 . rename_i e sz sz' xs ht
   obtain ⟨hu, hz⟩ := a3a ht
   split at hs
   . rename_i hc
     rw [A5t] at hc
     obtain ⟨hsz, h0⟩ := hc
     have hsz := of_decide_eq_true hsz
     have h0 := of_decide_eq_true h0
     subst hsz
     rw [A5q] at hs
     obtain ⟨r, hr, rfl⟩ := hs
     cases hx with
     | list _ _ A cap vs hl hc hm hvs =>
     have hlt : n.toNat < xs.length := by rw [A0q] at hr; exact hr.1
     obtain ⟨ad, rfl, hF, hcell⟩ := hm (fun e => by rw [e] at hlt; simp at hlt)
     have hlt' : n < (xs.length : Int) := by omega
     refine ⟨.pointer (some (ad.add (n.toNat * sz'))), by simp [Instr.indexAt, asIntOf, run_underlying hu, a2s hz, h0, hlt'], ?_⟩
     have hpart := (hvs.drop (n.toNat * sz')).take sz'
     rw [b7l sz' xs n.toNat r hl hr] at hpart
     refine .ref _ _ _ (by rw [a6o]; exact hF) (fun j v hj => ?_) hpart
     rw [A0p] at hj
     split at hj
     . rw [A2c] at hj; rw [b8j]; exact hcell _ _ hj
     . cases hj
   . cases hs
 . rename_i e sz l sz' off len ht
   obtain ⟨hu, hz⟩ := a3a ht
   split at hs
   . rename_i hc
     rw [A5t, A5t] at hc
     obtain ⟨hsz, h0, hlt⟩ := hc
     have hsz := of_decide_eq_true hsz
     have h0 := of_decide_eq_true h0
     have hlt := of_decide_eq_true hlt
     subst hsz
     obtain rfl := by simpa using hs
     cases hx with
     | sl _ _ _ _ cap o hu' hc ho hs' =>
       have ho' : o = off * sz' := ho.resolve_left ya
       subst ho'
       refine ⟨.pointer (some ((⟨(m l).1, off * sz', none⟩ : Addr).add (n.toNat * sz'))), by simp [Instr.indexAt, asIntOf, run_underlying hu, a2s hz, h0, hlt], ?_⟩
       rw [add0, <- A1d]
       exact .ptr l sz' (off + n.toNat) 0 hu'
     | sl0 => simp at hlt; omega
   . cases hs
 . split at hs
   . rename_i k' sz l rs j o ht _ _
     obtain ⟨e, hu, hz⟩ := c2k ht
     split at hs
     . rename_i hc
       rw [A5t] at hc
       obtain ⟨h0, hlt⟩ := hc
       have h0 := of_decide_eq_true h0
       have hlt := of_decide_eq_true hlt
       obtain rfl := by simpa using hs
       cases hx with
       | ptr _ _ _ _ hu' =>
       refine ⟨.pointer (some ((⟨(m l).1, j * rs + o, none⟩ : Addr).add (n.toNat * sz))), by simp [Instr.indexAt, asIntOf, run_underlying hu, a2s hz, h0, hlt, Instr.sureAddr], ?_⟩
       rw [add0, A4m]
       exact .ptr l rs j (o + n.toNat * sz) hu'
     . cases hs
   . rename_i k' sz cs ht _ _
     obtain ⟨e, hu, hz⟩ := c2k ht
     split at hs
     . rename_i hc
       rw [A5t] at hc
       obtain ⟨h0, hlt⟩ := hc
       have h0 := of_decide_eq_true h0
       have hlt := of_decide_eq_true hlt
       obtain rfl := by simpa using hs
       cases hx with
       | ref _ ad vs hF hm hvs =>
       exact ⟨.pointer (some (ad.add (n.toNat * sz))), by simp [Instr.indexAt, asIntOf, run_underlying hu, a2s hz, h0, hlt, Instr.sureAddr], .ref _ _ (vs.drop (n.toNat * sz)) (by rw [a6o]; exact hF) (fun j v hj => by rw [A2c] at hj; rw [b8j]; exact hm _ _ hj) (hvs.drop _)⟩
     . cases hs
   . cases hs
def fLen (P : Program) (H : Heap) (t : TypeId) (x : FV) : Option FV := match x with
 | .list _ xs => if (slT P t).isSome then some (.int .i64 xs.length) else none
 | .sl _ _ _ len => if (slT P t).isSome then some (.int .i64 len) else none
 | .nils => if (slT P t).isSome then some (.int .i64 0) else none
 | .emp => if (slT P t).isSome then some (.int .i64 0) else none
 | .str s => if strT P t then some (.int .i64 s.size) else none
 | .mp l => match P.underlying t, H l with
   | some (.map _ _), some (.map es _) => some (.int .i64 es.length)
   | _, _ => none
 | .nilm => match P.underlying t with
   | some (.map _ _) => some (.int .i64 0)
   | _ => none
 | _ => match arT P t with
   | some (n, _) => some (.int .i64 n)
   | none => none
theorem f6i (h : HeapR w F m H) {ty : TypeId} (hs : fLen P H t x = some y) (hx : RF w F (fun l => H l ≠ none) m x v) :
 ∃ u, (Builtin.len_ #[t] ty #[v]).run P w = .ok u w /\ RF w F (fun l => H l ≠ none) m y u := by
 unfold fLen at hs
 split at hs
 case h_1 =>
  split at hs
  . rename_i ht
    obtain ⟨⟨e, n⟩, he⟩ := A1g.1 ht
    obtain ⟨hu, _⟩ := a3a he
    obtain rfl := by simpa using hs
    cases hx
    exact ⟨_, by simp [Builtin.len_, run_underlying hu, goInt], .int _ _⟩
  . cases hs
 case h_2 =>
  split at hs
  . rename_i ht
    obtain ⟨⟨e, n⟩, he⟩ := A1g.1 ht
    obtain ⟨hu, _⟩ := a3a he
    obtain rfl := by simpa using hs
    cases hx
    . exact ⟨_, by simp [Builtin.len_, run_underlying hu, goInt], .int _ _⟩
    . exact ⟨_, by simp [Builtin.len_, run_underlying hu, goInt], .int _ _⟩
  . cases hs
 case h_3 =>
  split at hs
  . rename_i ht
    obtain ⟨⟨e, n⟩, he⟩ := A1g.1 ht
    obtain ⟨hu, _⟩ := a3a he
    obtain rfl := by simpa using hs
    cases hx
    exact ⟨_, by simp [Builtin.len_, run_underlying hu, goInt], .int _ _⟩
  . cases hs
 case h_4 =>
  split at hs
  . rename_i ht
    obtain ⟨⟨e, n⟩, he⟩ := A1g.1 ht
    obtain ⟨hu, _⟩ := a3a he
    obtain rfl := by simpa using hs
    cases hx
    exact ⟨_, by simp [Builtin.len_, run_underlying hu, goInt], .int _ _⟩
  . cases hs
 case h_5 =>
  split at hs
  . rename_i ht
    obtain rfl := by simpa using hs
    cases hx
    exact ⟨_, by simp [Builtin.len_, run_underlying (b2b ht), goInt], .int _ _⟩
  . cases hs
 case h_6 =>
  split at hs
  . rename_i l _ _ _ _ es clk hu hl
    obtain rfl := by simpa using hs
    cases hx
    obtain ⟨h0, a, g1, g2⟩ := h.obj _ _ hl
    have e : a.size = es.length := by rw [g2.length]; simp
    exact ⟨_, by simp [Builtin.len_, run_underlying hu, goInt, getObj, Sem.run, g1, e], .int _ _⟩
  . cases hs
 case h_7 =>
  split at hs
  . rename_i hu
    obtain rfl := by simpa using hs
    cases hx
    exact ⟨_, by simp [Builtin.len_, run_underlying hu, goInt], .int _ _⟩
  . cases hs
 case h_8 =>
  split at hs
  . rename_i n k ht
    obtain ⟨e, hu, _⟩ := c2k ht
    obtain rfl := by simpa using hs
    exact ⟨_, by simp [Builtin.len_, run_underlying hu, goInt], .int _ _⟩
  . cases hs
end
def FV.cellV : FV -> Bool
 | .agg _ | .tup _ | .undef => false
 | _ => true
def FV.cellsL : FV -> List FV
 | .agg cs => cs
 | v => [v]
def FV.storable : FV -> Bool
 | .agg cs => cs.all FV.cellV
 | x => x.cellV
section
variable {P : Program} {X : Ctx} {c : Cfg} {w w' : World} {F F' : Nat -> Prop} {U : Loc -> Prop} {m m' : Loc -> Nat × Nat} {s s' : Fs} {a a' : Act}
theorem RF.one (h : RF w F U m x v) (hx : x.cellV = true) : v.oneCell' = true := by
 cases h <;> first | rfl | (simp [FV.cellV] at hx)
theorem RFs.one : ∀ {xs : List FV} {vs : List Value}, RFs w F U m xs vs -> xs.all FV.cellV = true -> ∀ v ∈ vs, v.oneCell' = true
 | _, _, .nil, _ => by simp
 | _, _, .cons a v as vs h hs, hx => by
   simp only [A3i, A5t] at hx
   intro u hu
   rcases A0m.1 hu with rfl | hu
   . exact h.one hx.1
   . exact RFs.one hs hx.2 u hu
theorem RF.cells {x : FV} {v : Value} (h : RF w F U m x v) (hx : x.storable = true) : RFs w F U m x.cellsL v.cells.toList /\ x.cellsL.all FV.cellV = true := by
 cases h with
 | agg cs vs hc => exact ⟨by simpa [FV.cellsL, Value.cells] using hc, hx⟩
 | tup => simp [FV.storable, FV.cellV] at hx
 | undef => simp [FV.storable, FV.cellV] at hx
 | int => exact ⟨.cons _ _ _ _ (.int _ _) .nil, rfl⟩
 | bool => exact ⟨.cons _ _ _ _ (.bool _) .nil, rfl⟩
 | str => exact ⟨.cons _ _ _ _ (.str _) .nil, rfl⟩
 | list _ _ _ _ _ h1 h2 h3 h4 => exact ⟨.cons _ _ _ _ (.list _ _ _ _ _ h1 h2 h3 h4) .nil, rfl⟩
 | ref _ _ _ h1 h2 h3 => exact ⟨.cons _ _ _ _ (.ref _ _ _ h1 h2 h3) .nil, rfl⟩
 | ptr _ _ _ _ hu => exact ⟨.cons _ _ _ _ (.ptr _ _ _ _ hu) .nil, rfl⟩
 | nilp => exact ⟨.cons _ _ _ _ .nilp .nil, rfl⟩
 | sl _ _ _ _ _ _ h1 h2 h3 h4 => exact ⟨.cons _ _ _ _ (.sl _ _ _ _ _ _ h1 h2 h3 h4) .nil, rfl⟩
 | sl0 _ _ _ A h1 h2 => exact ⟨.cons _ _ _ _ (.sl0 _ _ _ A h1 h2) .nil, rfl⟩
 | nils => exact ⟨.cons _ _ _ _ .nils .nil, rfl⟩
 | mp _ hu => exact ⟨.cons _ _ _ _ (.mp _ hu) .nil, rfl⟩
 | nilm => exact ⟨.cons _ _ _ _ .nilm .nil, rfl⟩
 | clo _ _ _ _ _ h1 h2 => exact ⟨.cons _ _ _ _ (.clo _ _ _ _ _ h1 h2) .nil, rfl⟩
 | nilf => exact ⟨.cons _ _ _ _ .nilf .nil, rfl⟩
 | emp A => exact ⟨.cons _ _ _ _ (.emp A) .nil, rfl⟩
theorem RelX.alloc (h : RelX X F m s a w) {l : Loc} {cells : Array Value} {T : TypeId} {rows : List (List FV)} {sz : Nat} (hl : s.H l = none) (hr : RFs w F (fun k => s.H k ≠ none) m rows.flatten (cells.toList.take (rows.length * sz)))
 (hlen : ∀ x ∈ rows, x.length = sz) (hsz : rows.length * sz <= cells.size) (h0 : cells.size ≠ 0) :
 RelX X F (fun k => if k = l then (w.heap.size, cells.size) else m k) { s with H := upd s.H l (.cells T sz rows) } a (w.alloc (.cells cells T (0, 0))) := by
 have hold : ∀ b, b < w.heap.size -> (w.alloc (.cells cells T (0, 0))).heap[b]? = w.heap[b]? := fun b hb => by
  show (w.heap.push _)[b]? = _
  rw [A5g, if_neg ya]
 have hnew : (w.alloc (.cells cells T (0, 0))).heap[w.heap.size]? = some (.cells cells T (0, 0)) := by
  show (w.heap.push _)[w.heap.size]? = _
  simp
 refine h.fresh hl z2s hold rfl rfl rfl (.inr ⟨by simpa using h0, cells, by simpa using hnew, by simp, hlen, hsz, ?_⟩)
 refine hr.keep (fun _ h => h) (fun b hb => hold b (h.frz b hb)) (fun k hk => ?_) (fun k hk => ?_)
 . unfold upd; split <;> simp [hk]
 . have : k ≠ l := fun e => hk (e ▸ hl)
   simp [this]
theorem RelX.store (h : RelX X F m s a w) {i off : Nat} {r cs : List FV} {vs : List Value} (hl : s.H l = some (.cells T sz xs)) (hr : xs[i]? = some r) (hle : off + cs.length <= r.length)
 (hv : RFs w F (fun k => s.H k ≠ none) m cs vs) (h1 : ∀ v ∈ vs, v.oneCell' = true) :
 ∃ w', (storeCells ⟨(m l).1, i * sz + off, none⟩ vs).run P w = .ok () w' /\ RelX X F m { s with H := upd s.H l (.cells T sz (xs.modify i fun r => r.take off ++ cs ++ r.drop (off + cs.length))) } a w' := by
 have hlen := hv.length
 rcases h.heap.obj l _ hl with ⟨rfl, _⟩ | ⟨h0, cur, g1, g2, g3, g4, g5⟩
 . simp at hr
 have hrl := g3 r (A1b hr)
 have hi : i < xs.length := by rw [A0q] at hr; exact hr.1
 have hmul : (i + 1) * sz <= xs.length * sz := A1z _ hi
 have hmul' : i * sz + sz <= xs.length * sz := by rw [A1d] at hmul; omega
 have hst := run_storeCells_at P (m l).1 (i * sz + off) T vs 0 cur w g1 ya h1
 simp only [A3h] at hst
 refine ⟨_, hst, ?_⟩
 have hlive : Live s.H m l := ⟨_, hl, by simp, h0⟩
 have hU : ∀ k, s.H k ≠ none -> upd s.H l (.cells T sz (xs.modify i fun r => r.take off ++ cs ++ r.drop (off + cs.length))) k ≠ none := fun k hk => by unfold upd; split <;> simp [hk]
 have hFne : ∀ b, F b -> (w.setRow (m l).1 (cur.toList.take (i * sz + off) ++ vs ++ cur.toList.drop (i * sz + off + vs.length)).toArray).heap[b]? = w.heap[b]? := fun b hb =>
  setRow_other w _ b _ (fun e => (h.heap.old l hlive).2 (e ▸ hb))
 refine h.write hl hlive yd (by simp [World.setRow]) (fun b _ hb => setRow_other w _ b _ hb) rfl rfl rfl ?_
 . refine .inr ⟨h0, _, setRow_heap w _ cur _ T _ g1, ?_, ?_, ?_, ?_⟩
   . simp; omega
   . intro x hx
     obtain ⟨j, hj⟩ := List.getElem?_of_mem hx
     rw [A5a] at hj
     cases hxj : xs[j]? with
     | none => simp [hxj] at hj
     | some y =>
       have hy := g3 y (A1b hxj)
       simp [hxj] at hj
       subst hj
       split
       . simp [hy]; omega
       . exact hy
   . simp; omega
   . rw [List.length_modify]
     have e1 : (xs.modify i fun r => r.take off ++ cs ++ r.drop (off + cs.length)).flatten = (xs.flatten.take (i * sz + off)) ++ cs ++ (xs.flatten.drop (i * sz + off + cs.length)) := by
      have key : ∀ (xs : List (List FV)) (i : Nat) (r : List FV), (∀ x ∈ xs, x.length = sz) -> xs[i]? = some r ->
       (xs.modify i fun r => r.take off ++ cs ++ r.drop (off + cs.length)).flatten = (xs.flatten.take (i * sz + off)) ++ cs ++ (xs.flatten.drop (i * sz + off + cs.length)) := by
       intro xs
       induction xs with
       | nil => intro i r _ h; simp at h
       | cons y ys ih =>
         intro i r hl h
         have hy := hl y yd
         cases i with
         | zero =>
           simp at h
           subst h
           simp only [List.modify_zero_cons, A0l, A4k, A3u]
           rw [List.take_append_of_le_length ya, A4z ya]
           simp [A3g]
         | succ i =>
           rw [List.modify_succ_cons, A0l, ih i r (fun x hx => hl x wo) zl, A0l, A1d, A3b]
           have e2 : i * sz + sz + off = y.length + (i * sz + off) := by omega
           rw [e2, A3z, show y.length + (i * sz + off) + cs.length = y.length + (i * sz + off + cs.length) by omega, List.drop_length_add_append]
           simp [A3g]
      exact key xs i r g3 hr
     rw [e1]
     have hfl := a3q sz xs g3
     have hg5l := g5.length
     have e3 : ((cur.toList.take (i * sz + off) ++ vs ++ cur.toList.drop (i * sz + off + vs.length)).toArray.toList.take (xs.length * sz)) =
      ((cur.toList.take (xs.length * sz)).take (i * sz + off)) ++ vs ++ ((cur.toList.take (xs.length * sz)).drop (i * sz + off + cs.length)) := by
      have hcl : cur.toList.length = cur.size := by simp
      rw [A5f, <- hlen, A1c, A0w ya]
      rw [List.take_append, A6a yz]
      congr 1
      simp only [A0b, A0j]
      rw [A0w ya, List.drop_take]
      congr 1
      omega
     rw [e3]
     have hk := g5.keep (F' := F) (fun _ h => h) hFne hU (fun _ _ => rfl) (m' := m)
     exact ((hk.take _).append (hv.keep (fun _ h => h) hFne hU (fun _ _ => rfl))).append (hk.drop _)
end
def cv1 : Value -> FV
 | .int k n => .int k n
 | .bool b => .bool b
 | .string s => .str s
 | .slice none 0 0 => .nils
 | .pointer none => .nilp
 | .map none => .nilm
 | .nilFunc => .nilf
 | _ => .undef
def cv : Value -> FV
 | .agg cs => .agg (cs.toList.map cv1)
 | .tuple ⟨[]⟩ => .tup []
 | v => cv1 v
def rv (s : Fs) : Operand -> FV
 | .tmp t => s.get t
 | .const c => cv c
 | .func f => .clo f [] []
 | .global _ => .undef
section
variable {P : Program} {X : Ctx} {c : Cfg} {w w' : World} {F F' : Nat -> Prop} {U : Loc -> Prop} {m m' : Loc -> Nat × Nat} {s s' : Fs} {a a' : Act} {H : Heap}
theorem RF.cv1 (v : Value) : RF w F U m (cv1 v) v := by
 unfold FM.cv1
 split
 . exact .int _ _
 . exact .bool _
 . exact .str _
 . exact .nils
 . exact .nilp
 . exact .nilm
 . exact .nilf
 . exact .undef _
theorem RF.cv (v : Value) : RF w F U m (cv v) v := by
 unfold FM.cv
 split
 . rename_i cs
   have : RFs w F U m (cs.toList.map FM.cv1) cs.toList := by
    generalize cs.toList = l
    induction l with
    | nil => exact .nil
    | cons x l ih => exact .cons _ _ _ _ (RF.cv1 x) ih
   exact .agg _ _ this
 . exact .tup [] [] .nil
 . exact RF.cv1 _
theorem a1n (h : RelX X F m s a w) (x : Operand) : RF w F (fun l => s.H l ≠ none) m (rv s x) (a.eval x) := by
 cases x with
 | tmp t => exact h.val t
 | const v => exact RF.cv v
 | func f => exact .clo f [] [] [] [] .nil .nil
 | global g => exact .undef _
def fBin (P : Program) (op : BinOp) (t : TypeId) (x y : FV) : Option FV := match x, y with
 | .int k m, .int k' n => if k = k' then (match op with
   | .add => some (.int k (k.wrap (m + n)))
   | .sub => some (.int k (k.wrap (m - n)))
   | .mul => some (.int k (k.wrap (m * n)))
   | .quo => if n = 0 then none else some (.int k (k.wrap (m.tdiv n)))
   | .rem => if n = 0 then none else some (.int k (m.tmod n))
   | .eql => some (.bool (decide (m = n)))
   | .neq => some (.bool (!decide (m = n)))
   | .lss => some (.bool (decide (m < n)))
   | .leq => some (.bool (decide (m <= n)))
   | .gtr => some (.bool (decide (m > n)))
   | .geq => some (.bool (decide (m ≥ n)))
   | _ => none) else none
 | .bool m, .bool n => if e8c P t then (match op with
   | .eql => some (.bool (m == n))
   | .neq => some (.bool (!(m == n)))
   | _ => none) else none
 | .str m, .str n => match op with
   | .eql => some (.bool (m.data.toList == n.data.toList))
   | .neq => some (.bool (!(m.data.toList == n.data.toList)))
   | .lss => some (.bool (Op.bytesLess m.data.toList n.data.toList))
   | .add => if ((m.size + n.size : Nat) : Int) <= 9223372036854775807 then some (.str (m ++ n)) else none
   | _ => none
 | _, _ => none
theorem b6j (ht : P.underlying t = some .bool) (m n : Bool) (w : World) : (Op.equal t (.bool m) (.bool n)).run P w = .ok (m == n) w := by
 have h : ∀ d : Nat, (Op.equalIn (d + 1) t (.bool m) (.bool n)).run P w = .ok (m == n) w := fun d => by simp [Op.equalIn, run_underlying ht]
 exact h 9999
theorem d8k (m n : Int) : (m == n) = decide (m = n) := by by_cases h : m = n <;> simp [h]
theorem f5m (m n : Int) : (m != n) = !decide (m = n) := by by_cases h : m = n <;> simp [h]
theorem f6l {op : BinOp} {x y : Operand} {u v r : FV} {vx vy : Value} (h : fBin P op t u v = some r) (hu : RF w F U m u vx) (hv : RF w F U m v vy) :
 ∃ vr, ((do eqGuard op t x y vx vy; binOp op t vx vy : Sem Value).run P w = .ok vr w) /\ RF w F U m r vr := by
 unfold fBin at h
 split at h
 . cases hu; cases hv
   split at h
   . rename_i hk; subst hk
     split at h
     case h_4 | h_5 =>
      split at h
      . cases h
      . rename_i h0
        obtain rfl := by simpa using h
        exact ⟨_, by simp [eqGuard, binOp, Op.intDiv, h0], .int _ _⟩
     all_goals first
      | (cases h; done)
      | (obtain rfl := by simpa using h
         first
          | exact ⟨_, by simp [eqGuard, binOp, Op.intArith], .int _ _⟩
          | exact ⟨_, by simp [eqGuard, binOp, Op.intCmp, d8k, f5m], .bool _⟩)
   . cases h
 . cases hu; cases hv
   split at h
   . rename_i hb
     have hbt := d3q hb
     split at h
     . obtain rfl := by simpa using h
       exact ⟨_, by simp only [eqGuard, binOp]; simp [b6j hbt], .bool _⟩
     . obtain rfl := by simpa using h
       exact ⟨_, by simp only [eqGuard, binOp]; simp [b6j hbt], .bool _⟩
     . cases h
   . cases h
 . cases hu; cases hv
   split at h
   . obtain rfl := by simpa using h
     exact ⟨_, by simp [eqGuard, binOp, Op.stringOp, ByteArray.toList_eq], .bool _⟩
   . obtain rfl := by simpa using h
     exact ⟨_, by simp [eqGuard, binOp, Op.stringOp, ByteArray.toList_eq], .bool _⟩
   . obtain rfl := by simpa using h
     exact ⟨_, by simp [eqGuard, binOp, Op.stringOp, ByteArray.toList_eq], .bool _⟩
   . split at h
     . rename_i hle
       obtain rfl := by simpa using h
       refine ⟨_, ?_, .str _⟩
       simp [eqGuard, binOp, Op.stringOp]
       omega
     . cases h
   . cases h
 . cases h
def fUn (op : UnOp) (x : FV) : Option FV := match op, x with
 | .not, .bool b => some (.bool (!b))
 | .neg, .int k n => some (.int k (k.wrap (0 - n)))
 | _, _ => none
theorem g3n {op : UnOp} (h : fUn op x = some y) (hx : RF w F U m x v) : ∃ u, (Op.unary op v).run P w = .ok u w /\ RF w F U m y u := by
 unfold fUn at h
 split at h
 . obtain rfl := by simpa using h
   cases hx
   exact ⟨_, by simp [Op.unary], .bool _⟩
 . obtain rfl := by simpa using h
   cases hx
   exact ⟨_, by simp [Op.unary, Op.intArith], .int _ _⟩
 . cases h
def c6s (P : Program) (src dst : TypeId) (x : FV) : Option FV := match x with
 | .int _ n => if hasT P src then (intT P dst).map fun k => .int k (k.wrap n) else none
 | .str s => if strT P src && strT P dst then some (.str s) else none
 | _ => none
theorem e7e {src dst : TypeId} (h : c6s P src dst x = some y) (hx : RF w F U m x v) : ∃ u, (convert src dst v).run P w = .ok u w /\ RF w F U m y u := by
 unfold c6s at h
 split at h
 . split at h
   . rename_i hsrc
     rw [A5q] at h
     obtain ⟨k, hk, rfl⟩ := h
     have hk := d8l hk
     obtain ⟨d, hd⟩ := A1g.1 hsrc
     cases hx
     exact ⟨_, by simp [convert, run_underlying hd, run_underlying hk, Conv.intToInt], .int _ _⟩
   . cases h
 . split at h
   . rename_i hc
     rw [A5t] at hc
     obtain rfl := by simpa using h
     cases hx
     exact ⟨_, by simp [convert, run_underlying (b2b hc.1), run_underlying (b2b hc.2)], .str _⟩
   . cases h
 . cases h
def b8n (n : Nat) : Option FV -> Option Nat
 | none => some n
 | some (.int _ k) => if 0 <= k then some k.toNat else none
 | _ => none
def b7q (P : Program) (t : TypeId) (x : FV) (lo hi : Option FV) : Option FV := match x with
 | .sl l sz off len => match slT P t, b8n 0 lo, b8n len hi with
   | some (_, sz'), some i, some j => if decide (sz' = sz) && (decide (i <= j) && decide (j <= len)) then some (.sl l sz (off + i) (j - i)) else none
   | _, _, _ => none
 | .list sz xs => match slT P t, b8n 0 lo, b8n xs.length hi with
   | some (_, sz'), some i, some j => if decide (sz' = sz) && (decide (i <= j) && decide (j <= xs.length)) then some (.list sz ((xs.drop i).take (j - i))) else none
   | _, _, _ => none
 | _ => none
theorem b0i {d : Nat} {x : Option FV} {v : Option Value} {y : Nat} {code : BoundsCode} (h : b8n d x = some n) (hx : ∀ f, x = some f -> ∃ u, v = some u /\ RF w F U m f u) (hn : x = none -> v = none) (hle : n <= y) :
 (v = none /\ n = d) \/ ∃ k i, v = some (.int k i) /\ 0 <= i /\ n = i.toNat /\ (Instr.sliceBound (.int k i) y code).run P w = .ok n w := by
 unfold b8n at h
 split at h
 . exact .inl ⟨hn rfl, by simpa using h.symm⟩
 . rename_i k i
   split at h
   . rename_i h0
     obtain rfl := by simpa using h
     obtain ⟨u, rfl, hu⟩ := hx _ rfl
     cases hu
     refine .inr ⟨k, i, rfl, h0, rfl, ?_⟩
     have hi : i <= (y : Int) := by omega
     simp [Instr.sliceBound, asIntOf, h0, hi]
   . cases h
 . cases h
theorem e0e {lo hi : Option FV} {vlo vhi : Option Value} (h : b7q P t x lo hi = some y) (hx : RF w F U m x v)
 (hlo : ∀ f, lo = some f -> ∃ u, vlo = some u /\ RF w F U m f u) (hlon : lo = none -> vlo = none) (hhi : ∀ f, hi = some f -> ∃ u, vhi = some u /\ RF w F U m f u) (hhin : hi = none -> vhi = none) :
 ∃ u, (Instr.sliceAt t v vlo vhi none).run P w = .ok u w /\ RF w F U m y u := by
 unfold b7q at h
 split at h
 . rename_i l sz off len
   split at h
   . rename_i e sz' i j ht hi' hj'
     obtain ⟨hu, hz⟩ := a3a ht
     split at h
     . rename_i hc
       simp only [A5t, A5w] at hc
       obtain ⟨rfl, hij, hjl⟩ := hc
       obtain rfl := by simpa using h
       cases hx with
       | sl _ _ _ _ cap o hu' hcap ho hs =>
         have hrun : (Instr.sliceBounds true len cap vlo vhi none).run P w = .ok (i, j, cap) w := by
          have h1 := b0i (P := P) (w := w) (code := .sliceAcap) (y := cap) hj' hhi hhin ya
          have h2 := b0i (P := P) (w := w) (code := .sliceB) (y := j) hi' hlo hlon hij
          unfold Instr.sliceBounds
          rcases h1 with ⟨rfl, rfl⟩ | ⟨k1, i1, rfl, _, _, h1⟩ <;> rcases h2 with ⟨rfl, rfl⟩ | ⟨k2, i2, rfl, _, _, h2⟩ <;> simp_all
         have hrun2 : (Instr.sliceAt t (.slice (some ⟨(m l).1, o, none⟩) len cap) vlo vhi none).run P w = .ok (.slice (if cap = i then some ⟨(m l).1, o, none⟩ else (some (⟨(m l).1, o, none⟩ : Addr)).map (·.add (i * sz'))) (j - i) (cap - i)) w := by
          simp [Instr.sliceAt, Instr.slice, run_underlying hu, hrun, a2s hz]
         refine ⟨_, hrun2, ?_⟩
         by_cases hci : cap = i
         . rw [if_pos hci]
           exact .sl l sz' (off + i) (j - i) (cap - i) o hu' ya (.inl ya) z3z
         . rw [if_neg hci]
           simp only [A0s, add0]
           have ho' : o = off * sz' := ho.resolve_left ya
           exact .sl l sz' (off + i) (j - i) (cap - i) (o + i * sz') hu' ya (.inr (by rw [ho', A1d])) z3z
       | sl0 _ _ _ A hu' h0 =>
         have hj0 : j = 0 := by omega
         have hi0 : i = 0 := by omega
         subst hj0 hi0
         have hrun : (Instr.sliceBounds true 0 0 vlo vhi none).run P w = .ok (0, 0, 0) w := by
          have h1 := b0i (P := P) (w := w) (code := .sliceAcap) (y := 0) hj' hhi hhin ya
          have h2 := b0i (P := P) (w := w) (code := .sliceB) (y := 0) hi' hlo hlon hij
          unfold Instr.sliceBounds
          rcases h1 with ⟨rfl, _⟩ | ⟨k1, i1, rfl, _, _, h1⟩ <;> rcases h2 with ⟨rfl, _⟩ | ⟨k2, i2, rfl, _, _, h2⟩ <;> simp_all
         have hrun2 : (Instr.sliceAt t (.slice A 0 0) vlo vhi none).run P w = .ok (.slice A 0 0) w := by
          simp [Instr.sliceAt, Instr.slice, run_underlying hu, hrun, a2s hz]
         exact ⟨_, hrun2, .sl0 l sz' _ A hu' h0⟩
     . cases h
   . cases h
 . rename_i sz xs
   split at h
   . rename_i e sz' i j ht hi' hj'
     obtain ⟨hu, hz⟩ := a3a ht
     split at h
     . rename_i hc
       simp only [A5t, A5w] at hc
       obtain ⟨rfl, hij, hjl⟩ := hc
       obtain rfl := by simpa using h
       cases hx with
       | list _ _ A cap vs hl hcap hm hvs =>
       have hrun : (Instr.sliceBounds true xs.length cap vlo vhi none).run P w = .ok (i, j, cap) w := by
        have h1 := b0i (P := P) (w := w) (code := .sliceAcap) (y := cap) hj' hhi hhin ya
        have h2 := b0i (P := P) (w := w) (code := .sliceB) (y := j) hi' hlo hlon hij
        unfold Instr.sliceBounds
        rcases h1 with ⟨rfl, rfl⟩ | ⟨k1, i1, rfl, _, _, h1⟩ <;> rcases h2 with ⟨rfl, rfl⟩ | ⟨k2, i2, rfl, _, _, h2⟩ <;> simp_all
       have hrun2 : (Instr.sliceAt t (.slice A xs.length cap) vlo vhi none).run P w = .ok (.slice (if cap = i then A else A.map (·.add (i * sz'))) (j - i) (cap - i)) w := by
        simp [Instr.sliceAt, Instr.slice, run_underlying hu, hrun, a2s hz]
       refine ⟨_, hrun2, ?_⟩
       have hlen : ((xs.drop i).take (j - i)).length = j - i := by simp; omega
       have hflat : ((xs.drop i).take (j - i)).flatten = (xs.flatten.drop (i * sz')).take ((j - i) * sz') := by
        have d : ∀ (n : Nat) (xs : List (List FV)), (∀ x ∈ xs, x.length = sz') -> (xs.drop n).flatten = xs.flatten.drop (n * sz') := by
         intro n
         induction n with
         | zero => intro xs _; simp
         | succ n ih =>
           intro xs hl
           cases xs with
           | nil => simp
           | cons y ys =>
             have hy := hl y yd
             rw [List.drop_succ_cons, ih ys (fun x hx => hl x wo), A0l, A1d, A3b, A3v, <- A5i]
             rw [show (y ++ ys.flatten).drop sz' = ys.flatten by rw [<- hy]; simp]
        have tk : ∀ (n : Nat) (xs : List (List FV)), (∀ x ∈ xs, x.length = sz') -> (xs.take n).flatten = xs.flatten.take (n * sz') := by
         intro n
         induction n with
         | zero => intro xs _; simp
         | succ n ih =>
           intro xs hl
           cases xs with
           | nil => simp
           | cons y ys =>
             have hy := hl y yd
             rw [List.take_succ_cons, A0l, ih ys (fun x hx => hl x wo), A0l, A1d, A3b, A3v, <- hy, A3z]
        rw [tk _ _ (fun x hx => hl x (A1n hx)), d _ _ hl]
       have hsub := (hvs.drop (i * sz')).take ((j - i) * sz')
       rw [<- hflat] at hsub
       have := RF.list (w := w) (F := F) (U := U) (m := m) sz' ((xs.drop i).take (j - i)) (if cap = i then A else A.map (·.add (i * sz'))) (cap - i) _ (fun x hx => hl x (A1n (A0t hx))) (by rw [hlen]; omega) (fun hne => ?_) hsub
       . rw [hlen] at this; exact this
       . have hpos : 0 < j - i := by
          rcases A1v (j - i) with h0 | h0
          . rw [h0] at hne; simp at hne
          . exact h0
         obtain ⟨ad, rfl, hF, hcell⟩ := hm (fun e => by subst e; simp at hjl; omega)
         rw [if_neg ya]
         refine ⟨ad.add (i * sz'), rfl, by rw [a6o]; exact hF, fun k v hv => ?_⟩
         rw [A0p] at hv
         split at hv
         . rw [A2c] at hv; rw [b8j]; exact hcell _ _ hv
         . cases hv
     . cases h
   . cases h
 . cases h
end
end Go.FM
