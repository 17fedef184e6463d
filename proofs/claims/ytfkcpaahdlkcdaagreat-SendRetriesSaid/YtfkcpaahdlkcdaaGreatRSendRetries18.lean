import Derived.Test.YtfkcpaahdlkcdaaGreatRSendRetries17
set_option linter.unusedSimpArgs false
set_option linter.unusedVariables false
set_option maxRecDepth 100000
set_option maxHeartbeats 16000000
namespace Go.Proofs.YtfkcpaahdlkcdaaGreat
open Go.RowKit
def twiceO (wd : Int → Int → Int × Int) (p : Pt) : Ob × Int :=
 if (wd p.seg p.off).2 = 0 then
  if (wd p.seg (p.off + 1)).2 = 0 then
   if (ptrDec (wd p.seg p.off).1).2 = 0 then
    if (ptrDec (wd p.seg (p.off + 1)).1).2 = 0 then
     if (ptrDec (wd p.seg p.off).1).1.kind = 3 ∧ (ptrDec (wd p.seg p.off).1).1.dbl = false ∧ isNear (ptrDec (wd p.seg (p.off + 1)).1).1 = true ∧ (ptrDec (wd p.seg (p.off + 1)).1).1.off = 0 then
      (obOf (ptrDec (wd p.seg (p.off + 1)).1).1 (ptrDec (wd p.seg p.off).1).1.seg (ptrDec (wd p.seg p.off).1).1.off, 0)
     else (ob0, 23)
    else (ob0, (ptrDec (wd p.seg (p.off + 1)).1).2)
   else (ob0, (ptrDec (wd p.seg p.off).1).2)
  else (ob0, (wd p.seg (p.off + 1)).2)
 else (ob0, (wd p.seg p.off).2)
theorem twiceP_eq (sz : List Int) (wd : Int → Int → Int × Int) (p : Pt) : twiceP sz wd p = if (twiceO wd p).2 = 0 then foundO sz (twiceO wd p).1 else (ob0, (twiceO wd p).2) := by
 unfold twiceP twiceO
 by_cases h1 : (wd p.seg p.off).2 = 0
 ·rw [if_pos h1, if_pos h1]
  by_cases h2 : (wd p.seg (p.off + 1)).2 = 0
  ·rw [if_pos h2, if_pos h2]
   by_cases h3 : (ptrDec (wd p.seg p.off).1).2 = 0
   ·rw [if_pos h3, if_pos h3]
    by_cases h4 : (ptrDec (wd p.seg (p.off + 1)).1).2 = 0
    ·rw [if_pos h4, if_pos h4]
     by_cases h5 : (ptrDec (wd p.seg p.off).1).1.kind = 3 ∧ (ptrDec (wd p.seg p.off).1).1.dbl = false ∧ isNear (ptrDec (wd p.seg (p.off + 1)).1).1 = true ∧ (ptrDec (wd p.seg (p.off + 1)).1).1.off = 0
     ·rw [if_pos h5, if_pos h5, if_pos rfl, foundP_eq]
     ·rw [if_neg h5, if_neg h5, if_neg (by simp)]
    ·rw [if_neg h4, if_neg h4, if_neg (by simpa using h4)]
   ·rw [if_neg h3, if_neg h3, if_neg (by simpa using h3)]
  ·rw [if_neg h2, if_neg h2, if_neg (by simpa using h2)]
 ·rw [if_neg h1, if_neg h1, if_neg (by simpa using h1)]
theorem qdouble_calls (a : List (List Int)) (ho : OkA a) (A : Option Addr) (c : Nat) (w : World) (h : RowsR .u64 a (.slice A a.length c) w) (p : Pt) (hp : PtOk p) : Calls Tryz.prog 227 #[.agg #[.slice A a.length c, .bool false, .slice none 0 0], .agg #[.int .i64 p.kind, .int .i64 p.off, .int .i64 p.data, .int .i64 p.ptrs, .int .i64 p.size, .int .i64 p.count, .int .i64 p.seg, .bool p.dbl]] w (QFPost (twiceO (wordA a) p) w) := by
 have hga := (Keep.refl NoB w).alloc (.cells #[.slice A a.length c, .bool false, .slice none 0 0] 186)
 have hgb := hga.alloc (.cells #[.int .i64 p.kind, .int .i64 p.off, .int .i64 p.data, .int .i64 p.ptrs, .int .i64 p.size, .int .i64 p.count, .int .i64 p.seg, .bool p.dbl] 120)
 have hgc := hgb.alloc (.cells #[.int .i64 0, .int .i64 0, .int .i64 0, .int .i64 0, .int .i64 0, .int .i64 0, .int .i64 0] 257)
 have h2 := heap_two w (.cells #[.slice A a.length c, .bool false, .slice none 0 0] 186) (.cells #[.int .i64 p.kind, .int .i64 p.off, .int .i64 p.data, .int .i64 p.ptrs, .int .i64 p.size, .int .i64 p.count, .int .i64 p.seg, .bool p.dbl] 120)
 have hsz2 : ((w.alloc (.cells #[.slice A a.length c, .bool false, .slice none 0 0] 186)).alloc (.cells #[.int .i64 p.kind, .int .i64 p.off, .int .i64 p.data, .int .i64 p.ptrs, .int .i64 p.size, .int .i64 p.count, .int .i64 p.seg, .bool p.dbl] 120)).heap.size = w.heap.size + 2 := by simp
 have hz := heap_alloc_new ((w.alloc (.cells #[.slice A a.length c, .bool false, .slice none 0 0] 186)).alloc (.cells #[.int .i64 p.kind, .int .i64 p.off, .int .i64 p.data, .int .i64 p.ptrs, .int .i64 p.size, .int .i64 p.count, .int .i64 p.seg, .bool p.dbl] 120)) (.cells #[.int .i64 0, .int .i64 0, .int .i64 0, .int .i64 0, .int .i64 0, .int .i64 0, .int .i64 0] 257)
 rw [hsz2] at hz
 have HZ := LH hz
 have hgl := (Keep.refl NoB ((w.alloc (.cells #[.slice A a.length c, .bool false, .slice none 0 0] 186)).alloc (.cells #[.int .i64 p.kind, .int .i64 p.off, .int .i64 p.data, .int .i64 p.ptrs, .int .i64 p.size, .int .i64 p.count, .int .i64 p.seg, .bool p.dbl] 120))).alloc (.cells #[.int .i64 0, .int .i64 0, .int .i64 0, .int .i64 0, .int .i64 0, .int .i64 0, .int .i64 0] 257)
 have HS := LH (Grow.heap hgl h2.1)
 have HPC := LH (Grow.heap hgl h2.2.1)
 have HG := LH hgc
 have H := LH (h.grow hgc)
 have HA := LH ho
 have HV := LH (souOk_whole ho).val
 have hpo := hp.o
 have hwo : IntKind.i64.wrap (p.off + 1) = p.off + 1 := IntWalk.i64_in _ (by omega)
 have E0 : Hid (twiceO (wordA a) p = if (wordA a p.seg p.off).2 = 0 then
  if (wordA a p.seg (p.off + 1)).2 = 0 then
   if (ptrDec (wordA a p.seg p.off).1).2 = 0 then
    if (ptrDec (wordA a p.seg (p.off + 1)).1).2 = 0 then
     if (ptrDec (wordA a p.seg p.off).1).1.kind = 3 ∧ (ptrDec (wordA a p.seg p.off).1).1.dbl = false ∧ isNear (ptrDec (wordA a p.seg (p.off + 1)).1).1 = true ∧ (ptrDec (wordA a p.seg (p.off + 1)).1).1.off = 0 then
      (obOf (ptrDec (wordA a p.seg (p.off + 1)).1).1 (ptrDec (wordA a p.seg p.off).1).1.seg (ptrDec (wordA a p.seg p.off).1).1.off, 0)
     else (ob0, 23)
    else (ob0, (ptrDec (wordA a p.seg (p.off + 1)).1).2)
   else (ob0, (ptrDec (wordA a p.seg p.off).1).2)
  else (ob0, (wordA a p.seg (p.off + 1)).2)
 else (ob0, (wordA a p.seg p.off).2)) := LH rfl
 obtain ⟨m0, m1, m2, mf⟩ := cells3 HS.out
 obtain ⟨c0, c1, c2, c3, c4, c5, c6, c7, cf⟩ := cells8 HPC.out
 clear h ho hp hga hgb hgc h2 hsz2 hz hgl hpo
 have HW1 := LH (sword_calls a HA.out A c _ H.out p.seg p.off)
 generalize hX1 : wordA a p.seg p.off = X1 at *
 have hv1 := HV.out p.seg p.off
 rw [hX1] at hv1
 clear hX1
 obtain ⟨x1, e1⟩ := X1
 go_enter Tryz.func227, Tryz.ntmps227
 go_wp2_with fail
 refine HW1.out.mono ?_
 rintro e w1 ⟨rfl, hg⟩
 replace HZ := LH (Grow.heap hg HZ.out)
 replace HS := LH (Grow.heap hg HS.out)
 replace HPC := LH (Grow.heap hg HPC.out)
 replace HG := LH (HG.out.grow hg)
 replace H := LH (H.out.grow hg)
 clear hg m0 m1 m2 mf c0 c1 c2 c3 c4 c5 c6 c7 cf HW1
 have HV1 := LH hv1
 clear hv1
 by_cases he : e1 = 0
 case neg =>
  have heb : (e1 != 0) = true := by simp [he]
  replace E0 := LH (E0.out.trans (if_neg he))
  clear he hwo
  obtain ⟨hst, hgt⟩ := stored7 (.int .i64 0) (.int .i64 0) (.int .i64 0) (.int .i64 0) (.int .i64 0) (.int .i64 0) (.int .i64 0) HG.out (by omega) HZ.out
  obtain ⟨y0, y1, y2, y3, y4, y5, y6, yf⟩ := cells7 HZ.out
  have HSF := LH hst
  have HGF := LH hgt
  clear hst hgt
  go_wp2
  revert HSF HGF
  generalize (((((((w1.setCell ⟨w.heap.size + 2, 0, none⟩ (.int .i64 0)).setCell ⟨w.heap.size + 2, 1, none⟩ (.int .i64 0)).setCell ⟨w.heap.size + 2, 2, none⟩ (.int .i64 0)).setCell ⟨w.heap.size + 2, 3, none⟩ (.int .i64 0)).setCell ⟨w.heap.size + 2, 4, none⟩ (.int .i64 0)).setCell ⟨w.heap.size + 2, 5, none⟩ (.int .i64 0)).setCell ⟨w.heap.size + 2, 6, none⟩ (.int .i64 0)) = w9
  intro HSF HGF
  clear y0 y1 y2 y3 y4 y5 y6 yf
  obtain ⟨y0, y1, y2, y3, y4, y5, y6, yf⟩ := cells7 HSF.out
  refine bodyPost_ret (v := .tuple #[.agg #[.int .i64 0, .int .i64 0, .int .i64 0, .int .i64 0, .int .i64 0, .int .i64 0, .int .i64 0], .int .i64 e1]) ?_ rfl ⟨by rw [E0.out]; rfl, HGF.out⟩
  rw [results_cell_tmp rfl]; go_simp
 have heb : (e1 != 0) = false := by simp [he]
 replace E0 := LH (E0.out.trans (if_pos he))
 clear he
 obtain ⟨m0, m1, m2, mf⟩ := cells3 HS.out
 obtain ⟨c0, c1, c2, c3, c4, c5, c6, c7, cf⟩ := cells8 HPC.out
 have HW2 := LH (sword_calls a HA.out A c w1 H.out p.seg (p.off + 1))
 generalize hX2 : wordA a p.seg (p.off + 1) = X2 at *
 have hv2 := HV.out p.seg (p.off + 1)
 rw [hX2] at hv2
 have HV2 := LH hv2
 clear hX2 hv2
 obtain ⟨x2, e2⟩ := X2
 go_wp2_with fail
 refine HW2.out.mono ?_
 rintro e w2 ⟨rfl, hg⟩
 replace HZ := LH (Grow.heap hg HZ.out)
 replace HG := LH (HG.out.grow hg)
 clear hg m0 m1 m2 mf c0 c1 c2 c3 c4 c5 c6 c7 cf HW2 hwo heb
 by_cases he : e2 = 0
 case neg =>
  have heb : (e2 != 0) = true := by simp [he]
  replace E0 := LH (E0.out.trans (if_neg he))
  clear he
  obtain ⟨hst, hgt⟩ := stored7 (.int .i64 0) (.int .i64 0) (.int .i64 0) (.int .i64 0) (.int .i64 0) (.int .i64 0) (.int .i64 0) HG.out (by omega) HZ.out
  obtain ⟨y0, y1, y2, y3, y4, y5, y6, yf⟩ := cells7 HZ.out
  have HSF := LH hst
  have HGF := LH hgt
  clear hst hgt
  go_wp2
  revert HSF HGF
  generalize (((((((w2.setCell ⟨w.heap.size + 2, 0, none⟩ (.int .i64 0)).setCell ⟨w.heap.size + 2, 1, none⟩ (.int .i64 0)).setCell ⟨w.heap.size + 2, 2, none⟩ (.int .i64 0)).setCell ⟨w.heap.size + 2, 3, none⟩ (.int .i64 0)).setCell ⟨w.heap.size + 2, 4, none⟩ (.int .i64 0)).setCell ⟨w.heap.size + 2, 5, none⟩ (.int .i64 0)).setCell ⟨w.heap.size + 2, 6, none⟩ (.int .i64 0)) = w9
  intro HSF HGF
  clear y0 y1 y2 y3 y4 y5 y6 yf
  obtain ⟨y0, y1, y2, y3, y4, y5, y6, yf⟩ := cells7 HSF.out
  refine bodyPost_ret (v := .tuple #[.agg #[.int .i64 0, .int .i64 0, .int .i64 0, .int .i64 0, .int .i64 0, .int .i64 0, .int .i64 0], .int .i64 e2]) ?_ rfl ⟨by rw [E0.out]; rfl, HGF.out⟩
  rw [results_cell_tmp rfl]; go_simp
 have heb : (e2 != 0) = false := by simp [he]
 replace E0 := LH (E0.out.trans (if_pos he))
 clear he
 go_wp2_with fail
 refine (rdec_calls x1 _ HV1.out.1 HV1.out.2).mono ?_
 rintro e w3 ⟨rfl, hg⟩
 generalize ptrDec x1 = Q at *
 have hgq := (Keep.refl NoB w3).alloc (.cells #[.int .i64 Q.1.kind, .int .i64 Q.1.off, .int .i64 Q.1.data, .int .i64 Q.1.ptrs, .int .i64 Q.1.size, .int .i64 Q.1.count, .int .i64 Q.1.seg, .bool Q.1.dbl] 120)
 have HQC := LH (heap_alloc_new w3 (.cells #[.int .i64 Q.1.kind, .int .i64 Q.1.off, .int .i64 Q.1.data, .int .i64 Q.1.ptrs, .int .i64 Q.1.size, .int .i64 Q.1.count, .int .i64 Q.1.seg, .bool Q.1.dbl] 120))
 have HB3 : Hid (w.heap.size + 2 < w3.heap.size) := LH (by have h1 := (gE (Grow.heap hg HZ.out)).1; omega)
 replace HZ := LH (Grow.heap (hg.grow hgq) HZ.out)
 replace HG := LH (HG.out.grow (hg.grow hgq))
 clear hg hgq heb
 by_cases he : Q.2 = 0
 case neg =>
  have heb : (Q.2 != 0) = true := by simp [he]
  replace E0 := LH (E0.out.trans (if_neg he))
  clear he
  obtain ⟨hst, hgt⟩ := stored7 (.int .i64 0) (.int .i64 0) (.int .i64 0) (.int .i64 0) (.int .i64 0) (.int .i64 0) (.int .i64 0) HG.out (by omega) HZ.out
  obtain ⟨y0, y1, y2, y3, y4, y5, y6, yf⟩ := cells7 HZ.out
  have HSF := LH hst
  have HGF := LH hgt
  clear hst hgt
  go_wp2
  revert HSF HGF
  generalize ((((((((w3.alloc (.cells #[.int .i64 Q.1.kind, .int .i64 Q.1.off, .int .i64 Q.1.data, .int .i64 Q.1.ptrs, .int .i64 Q.1.size, .int .i64 Q.1.count, .int .i64 Q.1.seg, .bool Q.1.dbl] 120)).setCell ⟨w.heap.size + 2, 0, none⟩ (.int .i64 0)).setCell ⟨w.heap.size + 2, 1, none⟩ (.int .i64 0)).setCell ⟨w.heap.size + 2, 2, none⟩ (.int .i64 0)).setCell ⟨w.heap.size + 2, 3, none⟩ (.int .i64 0)).setCell ⟨w.heap.size + 2, 4, none⟩ (.int .i64 0)).setCell ⟨w.heap.size + 2, 5, none⟩ (.int .i64 0)).setCell ⟨w.heap.size + 2, 6, none⟩ (.int .i64 0)) = w9
  intro HSF HGF
  clear y0 y1 y2 y3 y4 y5 y6 yf
  obtain ⟨y0, y1, y2, y3, y4, y5, y6, yf⟩ := cells7 HSF.out
  refine bodyPost_ret (v := .tuple #[.agg #[.int .i64 0, .int .i64 0, .int .i64 0, .int .i64 0, .int .i64 0, .int .i64 0, .int .i64 0], .int .i64 Q.2]) ?_ rfl ⟨by rw [E0.out]; rfl, HGF.out⟩
  rw [results_cell_tmp rfl]; go_simp
 have heb : (Q.2 != 0) = false := by simp [he]
 replace E0 := LH (E0.out.trans (if_pos he))
 clear he
 go_wp2_with fail
 refine (rdec_calls x2 _ HV2.out.1 HV2.out.2).mono ?_
 rintro e w4 ⟨rfl, hg⟩
 generalize ptrDec x2 = R at *
 have hgr := (Keep.refl NoB w4).alloc (.cells #[.int .i64 R.1.kind, .int .i64 R.1.off, .int .i64 R.1.data, .int .i64 R.1.ptrs, .int .i64 R.1.size, .int .i64 R.1.count, .int .i64 R.1.seg, .bool R.1.dbl] 120)
 have HRC := LH (heap_alloc_new w4 (.cells #[.int .i64 R.1.kind, .int .i64 R.1.off, .int .i64 R.1.data, .int .i64 R.1.ptrs, .int .i64 R.1.size, .int .i64 R.1.count, .int .i64 R.1.seg, .bool R.1.dbl] 120))
 replace HQC := LH (Grow.heap (hg.grow hgr) HQC.out)
 replace HZ := LH (Grow.heap (hg.grow hgr) HZ.out)
 replace HG := LH (HG.out.grow (hg.grow hgr))
 have HB4 : Hid (w.heap.size + 2 < w4.heap.size ∧ w3.heap.size < w4.heap.size) := LH (by have h1 := hg.size; simp at h1; have := HB3.out; omega)
 clear hg hgr heb
 by_cases he : R.2 = 0
 case neg =>
  have heb : (R.2 != 0) = true := by simp [he]
  replace E0 := LH (E0.out.trans (if_neg he))
  clear he
  obtain ⟨hst, hgt⟩ := stored7 (.int .i64 0) (.int .i64 0) (.int .i64 0) (.int .i64 0) (.int .i64 0) (.int .i64 0) (.int .i64 0) HG.out (by omega) HZ.out
  obtain ⟨y0, y1, y2, y3, y4, y5, y6, yf⟩ := cells7 HZ.out
  have HSF := LH hst
  have HGF := LH hgt
  clear hst hgt
  go_wp2
  revert HSF HGF
  generalize ((((((((w4.alloc (.cells #[.int .i64 R.1.kind, .int .i64 R.1.off, .int .i64 R.1.data, .int .i64 R.1.ptrs, .int .i64 R.1.size, .int .i64 R.1.count, .int .i64 R.1.seg, .bool R.1.dbl] 120)).setCell ⟨w.heap.size + 2, 0, none⟩ (.int .i64 0)).setCell ⟨w.heap.size + 2, 1, none⟩ (.int .i64 0)).setCell ⟨w.heap.size + 2, 2, none⟩ (.int .i64 0)).setCell ⟨w.heap.size + 2, 3, none⟩ (.int .i64 0)).setCell ⟨w.heap.size + 2, 4, none⟩ (.int .i64 0)).setCell ⟨w.heap.size + 2, 5, none⟩ (.int .i64 0)).setCell ⟨w.heap.size + 2, 6, none⟩ (.int .i64 0)) = w9
  intro HSF HGF
  clear y0 y1 y2 y3 y4 y5 y6 yf
  obtain ⟨y0, y1, y2, y3, y4, y5, y6, yf⟩ := cells7 HSF.out
  refine bodyPost_ret (v := .tuple #[.agg #[.int .i64 0, .int .i64 0, .int .i64 0, .int .i64 0, .int .i64 0, .int .i64 0, .int .i64 0], .int .i64 R.2]) ?_ rfl ⟨by rw [E0.out]; rfl, HGF.out⟩
  rw [results_cell_tmp rfl]; go_simp
 have heb : (R.2 != 0) = false := by simp [he]
 replace E0 := LH (E0.out.trans (if_pos he))
 clear he
 obtain ⟨q0, q1, q2, q3, q4, q5, q6, q7, qf⟩ := cells8 HQC.out
 obtain ⟨r0, r1, r2, r3, r4, r5, r6, r7, rf⟩ := cells8 HRC.out
 by_cases k3 : Q.1.kind = 3
 case neg =>
  have k3b : (Q.1.kind != 3) = true := by simp [k3]
  replace E0 := LH (E0.out.trans (if_neg (fun h => k3 h.1)))
  clear k3
  obtain ⟨hst, hgt⟩ := stored7 (.int .i64 0) (.int .i64 0) (.int .i64 0) (.int .i64 0) (.int .i64 0) (.int .i64 0) (.int .i64 0) HG.out (by omega) HZ.out
  obtain ⟨y0, y1, y2, y3, y4, y5, y6, yf⟩ := cells7 HZ.out
  have HSF := LH hst
  have HGF := LH hgt
  clear hst hgt
  go_wp2
  revert HSF HGF
  generalize ((((((((w4.alloc (.cells #[.int .i64 R.1.kind, .int .i64 R.1.off, .int .i64 R.1.data, .int .i64 R.1.ptrs, .int .i64 R.1.size, .int .i64 R.1.count, .int .i64 R.1.seg, .bool R.1.dbl] 120)).setCell ⟨w.heap.size + 2, 0, none⟩ (.int .i64 0)).setCell ⟨w.heap.size + 2, 1, none⟩ (.int .i64 0)).setCell ⟨w.heap.size + 2, 2, none⟩ (.int .i64 0)).setCell ⟨w.heap.size + 2, 3, none⟩ (.int .i64 0)).setCell ⟨w.heap.size + 2, 4, none⟩ (.int .i64 0)).setCell ⟨w.heap.size + 2, 5, none⟩ (.int .i64 0)).setCell ⟨w.heap.size + 2, 6, none⟩ (.int .i64 0)) = w9
  intro HSF HGF
  clear y0 y1 y2 y3 y4 y5 y6 yf
  obtain ⟨y0, y1, y2, y3, y4, y5, y6, yf⟩ := cells7 HSF.out
  refine bodyPost_ret (v := .tuple #[.agg #[.int .i64 0, .int .i64 0, .int .i64 0, .int .i64 0, .int .i64 0, .int .i64 0, .int .i64 0], .int .i64 23]) ?_ rfl ⟨by rw [E0.out]; rfl, HGF.out⟩
  rw [results_cell_tmp rfl]; go_simp
 have k3b : (Q.1.kind != 3) = false := by simp [k3]
 by_cases hdb : Q.1.dbl = true
 case pos =>
  replace E0 := LH (E0.out.trans (if_neg (fun h => by rw [hdb] at h; cases h.2.1)))
  clear k3
  rw [hdb] at q7
  obtain ⟨hst, hgt⟩ := stored7 (.int .i64 0) (.int .i64 0) (.int .i64 0) (.int .i64 0) (.int .i64 0) (.int .i64 0) (.int .i64 0) HG.out (by omega) HZ.out
  obtain ⟨y0, y1, y2, y3, y4, y5, y6, yf⟩ := cells7 HZ.out
  have HSF := LH hst
  have HGF := LH hgt
  clear hst hgt
  go_wp2
  revert HSF HGF
  generalize ((((((((w4.alloc (.cells #[.int .i64 R.1.kind, .int .i64 R.1.off, .int .i64 R.1.data, .int .i64 R.1.ptrs, .int .i64 R.1.size, .int .i64 R.1.count, .int .i64 R.1.seg, .bool R.1.dbl] 120)).setCell ⟨w.heap.size + 2, 0, none⟩ (.int .i64 0)).setCell ⟨w.heap.size + 2, 1, none⟩ (.int .i64 0)).setCell ⟨w.heap.size + 2, 2, none⟩ (.int .i64 0)).setCell ⟨w.heap.size + 2, 3, none⟩ (.int .i64 0)).setCell ⟨w.heap.size + 2, 4, none⟩ (.int .i64 0)).setCell ⟨w.heap.size + 2, 5, none⟩ (.int .i64 0)).setCell ⟨w.heap.size + 2, 6, none⟩ (.int .i64 0)) = w9
  intro HSF HGF
  clear y0 y1 y2 y3 y4 y5 y6 yf
  obtain ⟨y0, y1, y2, y3, y4, y5, y6, yf⟩ := cells7 HSF.out
  refine bodyPost_ret (v := .tuple #[.agg #[.int .i64 0, .int .i64 0, .int .i64 0, .int .i64 0, .int .i64 0, .int .i64 0, .int .i64 0], .int .i64 23]) ?_ rfl ⟨by rw [E0.out]; rfl, HGF.out⟩
  rw [results_cell_tmp rfl]; go_simp
 have hdb2 : Q.1.dbl = false := by simpa using hdb
 rw [hdb2] at q7
 go_wp2_with fail
 refine (show Calls Tryz.prog 224 #[.agg #[.int .i64 R.1.kind, .int .i64 R.1.off, .int .i64 R.1.data, .int .i64 R.1.ptrs, .int .i64 R.1.size, .int .i64 R.1.count, .int .i64 R.1.seg, .bool R.1.dbl]] (w4.alloc (.cells #[.int .i64 R.1.kind, .int .i64 R.1.off, .int .i64 R.1.data, .int .i64 R.1.ptrs, .int .i64 R.1.size, .int .i64 R.1.count, .int .i64 R.1.seg, .bool R.1.dbl] 120)) (fun e w' => e = .returned (.bool (isNear R.1)) ∧ Grow (w4.alloc (.cells #[.int .i64 R.1.kind, .int .i64 R.1.off, .int .i64 R.1.data, .int .i64 R.1.ptrs, .int .i64 R.1.size, .int .i64 R.1.count, .int .i64 R.1.seg, .bool R.1.dbl] 120)) w') from qnear_calls R.1 _).mono ?_
 rintro e w6 ⟨rfl, hg⟩
 replace HZ := LH (Grow.heap hg HZ.out)
 replace HG := LH (HG.out.grow hg)
 replace HQC := LH (Grow.heap hg HQC.out)
 replace HRC := LH (Grow.heap hg HRC.out)
 clear hg q0 q1 q2 q3 q4 q5 q6 q7 qf r0 r1 r2 r3 r4 r5 r6 r7 rf hdb heb
 obtain ⟨q0, q1, q2, q3, q4, q5, q6, q7, qf⟩ := cells8 HQC.out
 obtain ⟨r0, r1, r2, r3, r4, r5, r6, r7, rf⟩ := cells8 HRC.out
 rcases hnr : isNear R.1 with _ | _
 ·replace E0 := LH (E0.out.trans (if_neg (fun h => by rw [hnr] at h; cases h.2.2.1)))
  clear k3 hnr hdb2
  obtain ⟨hst, hgt⟩ := stored7 (.int .i64 0) (.int .i64 0) (.int .i64 0) (.int .i64 0) (.int .i64 0) (.int .i64 0) (.int .i64 0) HG.out (by omega) HZ.out
  obtain ⟨y0, y1, y2, y3, y4, y5, y6, yf⟩ := cells7 HZ.out
  have HSF := LH hst
  have HGF := LH hgt
  clear hst hgt
  go_wp2
  revert HSF HGF
  generalize (((((((w6.setCell ⟨w.heap.size + 2, 0, none⟩ (.int .i64 0)).setCell ⟨w.heap.size + 2, 1, none⟩ (.int .i64 0)).setCell ⟨w.heap.size + 2, 2, none⟩ (.int .i64 0)).setCell ⟨w.heap.size + 2, 3, none⟩ (.int .i64 0)).setCell ⟨w.heap.size + 2, 4, none⟩ (.int .i64 0)).setCell ⟨w.heap.size + 2, 5, none⟩ (.int .i64 0)).setCell ⟨w.heap.size + 2, 6, none⟩ (.int .i64 0)) = w9
  intro HSF HGF
  clear y0 y1 y2 y3 y4 y5 y6 yf
  obtain ⟨y0, y1, y2, y3, y4, y5, y6, yf⟩ := cells7 HSF.out
  refine bodyPost_ret (v := .tuple #[.agg #[.int .i64 0, .int .i64 0, .int .i64 0, .int .i64 0, .int .i64 0, .int .i64 0, .int .i64 0], .int .i64 23]) ?_ rfl ⟨by rw [E0.out]; rfl, HGF.out⟩
  rw [results_cell_tmp rfl]; go_simp
 ·by_cases hof : R.1.off = 0
  case neg =>
   have hofb : (R.1.off != 0) = true := by simp [hof]
   replace E0 := LH (E0.out.trans (if_neg (fun h => hof h.2.2.2)))
   clear k3 hnr hdb2 hof
   obtain ⟨hst, hgt⟩ := stored7 (.int .i64 0) (.int .i64 0) (.int .i64 0) (.int .i64 0) (.int .i64 0) (.int .i64 0) (.int .i64 0) HG.out (by omega) HZ.out
   obtain ⟨y0, y1, y2, y3, y4, y5, y6, yf⟩ := cells7 HZ.out
   have HSF := LH hst
   have HGF := LH hgt
   clear hst hgt
   go_wp2
   revert HSF HGF
   generalize (((((((w6.setCell ⟨w.heap.size + 2, 0, none⟩ (.int .i64 0)).setCell ⟨w.heap.size + 2, 1, none⟩ (.int .i64 0)).setCell ⟨w.heap.size + 2, 2, none⟩ (.int .i64 0)).setCell ⟨w.heap.size + 2, 3, none⟩ (.int .i64 0)).setCell ⟨w.heap.size + 2, 4, none⟩ (.int .i64 0)).setCell ⟨w.heap.size + 2, 5, none⟩ (.int .i64 0)).setCell ⟨w.heap.size + 2, 6, none⟩ (.int .i64 0)) = w9
   intro HSF HGF
   clear y0 y1 y2 y3 y4 y5 y6 yf
   obtain ⟨y0, y1, y2, y3, y4, y5, y6, yf⟩ := cells7 HSF.out
   refine bodyPost_ret (v := .tuple #[.agg #[.int .i64 0, .int .i64 0, .int .i64 0, .int .i64 0, .int .i64 0, .int .i64 0, .int .i64 0], .int .i64 23]) ?_ rfl ⟨by rw [E0.out]; rfl, HGF.out⟩
   rw [results_cell_tmp rfl]; go_simp
  have hofb : (R.1.off != 0) = false := by simp [hof]
  replace E0 := LH (E0.out.trans (if_pos ⟨k3, hdb2, hnr, hof⟩))
  clear k3 hnr hdb2 hof
  go_wp2_with fail
  refine (show Calls Tryz.prog 226 #[.agg #[.int .i64 R.1.kind, .int .i64 R.1.off, .int .i64 R.1.data, .int .i64 R.1.ptrs, .int .i64 R.1.size, .int .i64 R.1.count, .int .i64 R.1.seg, .bool R.1.dbl], .int .i64 Q.1.seg, .int .i64 Q.1.off] w6 (QObPost (obOf R.1 Q.1.seg Q.1.off) w6) from qobj_calls R.1 Q.1.seg Q.1.off w6).mono ?_
  rintro e w7 ⟨rfl, hg⟩
  replace HZ := LH (Grow.heap hg HZ.out)
  replace HG := LH (HG.out.grow hg)
  clear hg q0 q1 q2 q3 q4 q5 q6 q7 qf r0 r1 r2 r3 r4 r5 r6 r7 rf
  generalize obOf R.1 Q.1.seg Q.1.off = ob at *
  obtain ⟨hst, hgt⟩ := stored7 (.int .i64 ob.kind) (.int .i64 ob.seg) (.int .i64 ob.at_) (.int .i64 ob.data) (.int .i64 ob.ptrs) (.int .i64 ob.size) (.int .i64 ob.count) HG.out (by omega) HZ.out
  obtain ⟨y0, y1, y2, y3, y4, y5, y6, yf⟩ := cells7 HZ.out
  have HSF := LH hst
  have HGF := LH hgt
  clear hst hgt
  go_wp2
  revert HSF HGF
  generalize (((((((w7.setCell ⟨w.heap.size + 2, 0, none⟩ (.int .i64 ob.kind)).setCell ⟨w.heap.size + 2, 1, none⟩ (.int .i64 ob.seg)).setCell ⟨w.heap.size + 2, 2, none⟩ (.int .i64 ob.at_)).setCell ⟨w.heap.size + 2, 3, none⟩ (.int .i64 ob.data)).setCell ⟨w.heap.size + 2, 4, none⟩ (.int .i64 ob.ptrs)).setCell ⟨w.heap.size + 2, 5, none⟩ (.int .i64 ob.size)).setCell ⟨w.heap.size + 2, 6, none⟩ (.int .i64 ob.count)) = w9
  intro HSF HGF
  clear y0 y1 y2 y3 y4 y5 y6 yf
  obtain ⟨y0, y1, y2, y3, y4, y5, y6, yf⟩ := cells7 HSF.out
  refine bodyPost_ret (v := .tuple #[.agg #[.int .i64 ob.kind, .int .i64 ob.seg, .int .i64 ob.at_, .int .i64 ob.data, .int .i64 ob.ptrs, .int .i64 ob.size, .int .i64 ob.count], .int .i64 0]) ?_ rfl ⟨by rw [E0.out], HGF.out⟩
  rw [results_cell_tmp rfl]; go_simp
end Go.Proofs.YtfkcpaahdlkcdaaGreat
