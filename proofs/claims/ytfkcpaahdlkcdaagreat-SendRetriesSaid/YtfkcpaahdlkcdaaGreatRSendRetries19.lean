import Derived.Test.YtfkcpaahdlkcdaaGreatRSendRetries18
set_option linter.unusedSimpArgs false
set_option linter.unusedVariables false
set_option maxRecDepth 100000
set_option maxHeartbeats 16000000
namespace Go.Proofs.YtfkcpaahdlkcdaaGreat
open Go.RowKit
theorem keepN7 {c : World} {N : Nat} (b0 b1 b2 b3 b4 b5 b6 : Value) : Keep (fun j => j = N) c (((((((c.setCell ⟨N, 0, none⟩ b0).setCell ⟨N, 1, none⟩ b1).setCell ⟨N, 2, none⟩ b2).setCell ⟨N, 3, none⟩ b3).setCell ⟨N, 4, none⟩ b4).setCell ⟨N, 5, none⟩ b5).setCell ⟨N, 6, none⟩ b6) := ((((((((Keep.refl (fun j => j = N) c).setCell (p := ⟨N, 0, none⟩) (.inl rfl) _).setCell (p := ⟨N, 1, none⟩) (.inl rfl) _).setCell (p := ⟨N, 2, none⟩) (.inl rfl) _).setCell (p := ⟨N, 3, none⟩) (.inl rfl) _).setCell (p := ⟨N, 4, none⟩) (.inl rfl) _).setCell (p := ⟨N, 5, none⟩) (.inl rfl) _).setCell (p := ⟨N, 6, none⟩) (.inl rfl) _)
theorem ptrAt_in {sz : List Int} {wd : Int → Int → Int × Int} (h : SouOk sz wd) {seg at_ : Int} (h1 : (ptrAt wd seg at_).2 = 0) : 0 ≤ seg ∧ 0 ≤ at_ ∧ at_ ≤ 100000 := by
 refine h.inb seg at_ ?_
 unfold ptrAt at h1
 split at h1
 ·assumption
 ·exact h1
theorem twiceO_ok {sz : List Int} {wd : Int → Int → Int × Int} (h : SouOk sz wd) (p : Pt) : ObOk (twiceO wd p).1 := by
 unfold twiceO
 repeat' split
 all_goals first | exact ob0_ok | exact obOf_ok (ptrDec_ok _ (h.val _ _).1) _ _
theorem qfollow_calls (a : List (List Int)) (ho : OkA a) (A : Option Addr) (c : Nat) (w : World) (h : RowsR .u64 a (.slice A a.length c) w) (seg at_ : Int) : Calls Tryz.prog 173 #[.agg #[.slice A a.length c, .bool false, .slice none 0 0], .int .i64 seg, .int .i64 at_] w (QFPost (followP (szs a) (wordA a) seg at_) w) := by
 have hga := (Keep.refl NoB w).alloc (.cells #[.slice A a.length c, .bool false, .slice none 0 0] 186)
 have hgb := hga.alloc (.cells #[.int .i64 0, .int .i64 0, .int .i64 0, .int .i64 0, .int .i64 0, .int .i64 0, .int .i64 0] 257)
 have h2 := heap_two w (.cells #[.slice A a.length c, .bool false, .slice none 0 0] 186) (.cells #[.int .i64 0, .int .i64 0, .int .i64 0, .int .i64 0, .int .i64 0, .int .i64 0, .int .i64 0] 257)
 have HZ := LH h2.2.1
 have HS := LH h2.1
 have HG := LH hgb
 have H := LH (h.grow hgb)
 have HA := LH ho
 have hso := souOk_whole ho
 have HSO := LH hso
 have E0 : Hid (followP (szs a) (wordA a) seg at_ = if (ptrAt (wordA a) seg at_).2 = 0 ∧ (ptrAt (wordA a) seg at_).1.kind ≠ 0 then
  if isNear (ptrAt (wordA a) seg at_).1 then foundO (szs a) (obOf (ptrAt (wordA a) seg at_).1 seg (at_ + 1 + (ptrAt (wordA a) seg at_).1.off))
  else if (ptrAt (wordA a) seg at_).1.dbl then twiceP (szs a) (wordA a) (ptrAt (wordA a) seg at_).1
  else landedP (szs a) (wordA a) (ptrAt (wordA a) seg at_).1
 else (ob0, (ptrAt (wordA a) seg at_).2)) := LH rfl
 have HPO := LH (ptrAt_ok hso seg at_)
 have HIN := LH (ptrAt_in hso (seg := seg) (at_ := at_))
 have HPT := LH (qptr_calls a ho A c _ (h.grow hgb) seg at_)
 have HQ : Hid (∀ e w' w0, QPAPost (wordA a) seg at_ w0 e w' → e = .returned (.tuple #[.agg #[.int .i64 (ptrAt (wordA a) seg at_).1.kind, .int .i64 (ptrAt (wordA a) seg at_).1.off, .int .i64 (ptrAt (wordA a) seg at_).1.data, .int .i64 (ptrAt (wordA a) seg at_).1.ptrs, .int .i64 (ptrAt (wordA a) seg at_).1.size, .int .i64 (ptrAt (wordA a) seg at_).1.count, .int .i64 (ptrAt (wordA a) seg at_).1.seg, .bool (ptrAt (wordA a) seg at_).1.dbl], .int .i64 (ptrAt (wordA a) seg at_).2]) ∧ Grow w0 w') := LH (fun _ _ _ h => h)
 obtain ⟨m0, m1, m2, mf⟩ := cells3 HS.out
 clear h ho hga hgb h2 hso
 go_enter Tryz.func173, Tryz.ntmps173
 go_wp2_with fail
 refine HPT.out.mono ?_
 intro e w1 hpost
 replace hpost := HQ.out _ _ _ hpost
 clear HPT HQ
 generalize ptrAt (wordA a) seg at_ = RP at *
 obtain ⟨rfl, hg⟩ := hpost
 have hg8 := (Keep.refl NoB w1).alloc (.cells #[.int .i64 RP.1.kind, .int .i64 RP.1.off, .int .i64 RP.1.data, .int .i64 RP.1.ptrs, .int .i64 RP.1.size, .int .i64 RP.1.count, .int .i64 RP.1.seg, .bool RP.1.dbl] 120)
 have HP8 := LH (heap_alloc_new w1 (.cells #[.int .i64 RP.1.kind, .int .i64 RP.1.off, .int .i64 RP.1.data, .int .i64 RP.1.ptrs, .int .i64 RP.1.size, .int .i64 RP.1.count, .int .i64 RP.1.seg, .bool RP.1.dbl] 120))
 have hz1 := Grow.heap hg HZ.out
 have hb1 : w.heap.size + 1 < w1.heap.size := (gE hz1).1
 have hne1 : w1.heap.size ≠ w.heap.size + 1 := by omega
 have hne2 : w.heap.size + 1 ≠ w1.heap.size := by omega
 replace HZ := LH (Grow.heap hg8 hz1)
 replace HS := LH (Grow.heap (hg.grow hg8) HS.out)
 replace HG := LH (HG.out.grow (hg.grow hg8))
 replace H := LH (H.out.grow (hg.grow hg8))
 clear hg hg8 hz1 hb1 m0 m1 m2 mf
 obtain ⟨c0, c1, c2, c3, c4, c5, c6, c7, cf⟩ := cells8 HP8.out
 by_cases he : RP.2 = 0
 case neg =>
  have heb : (RP.2 != 0) = true := by simp [he]
  replace E0 := LH (E0.out.trans (if_neg (fun h => he h.1)))
  clear he
  obtain ⟨hst, hgt⟩ := stored7 (.int .i64 0) (.int .i64 0) (.int .i64 0) (.int .i64 0) (.int .i64 0) (.int .i64 0) (.int .i64 0) HG.out (Nat.le_succ _) HZ.out
  obtain ⟨y0, y1, y2, y3, y4, y5, y6, yf⟩ := cells7 HZ.out
  have HSF := LH hst
  have HGF := LH hgt
  clear hst hgt
  go_wp2
  revert HSF HGF
  generalize ((((((((w1.alloc (.cells #[.int .i64 RP.1.kind, .int .i64 RP.1.off, .int .i64 RP.1.data, .int .i64 RP.1.ptrs, .int .i64 RP.1.size, .int .i64 RP.1.count, .int .i64 RP.1.seg, .bool RP.1.dbl] 120)).setCell ⟨w.heap.size + 1, 0, none⟩ (.int .i64 0)).setCell ⟨w.heap.size + 1, 1, none⟩ (.int .i64 0)).setCell ⟨w.heap.size + 1, 2, none⟩ (.int .i64 0)).setCell ⟨w.heap.size + 1, 3, none⟩ (.int .i64 0)).setCell ⟨w.heap.size + 1, 4, none⟩ (.int .i64 0)).setCell ⟨w.heap.size + 1, 5, none⟩ (.int .i64 0)).setCell ⟨w.heap.size + 1, 6, none⟩ (.int .i64 0)) = w9
  intro HSF HGF
  clear y0 y1 y2 y3 y4 y5 y6 yf
  obtain ⟨y0, y1, y2, y3, y4, y5, y6, yf⟩ := cells7 HSF.out
  refine bodyPost_ret (v := .tuple #[.agg #[.int .i64 0, .int .i64 0, .int .i64 0, .int .i64 0, .int .i64 0, .int .i64 0, .int .i64 0], .int .i64 RP.2]) ?_ rfl ⟨by rw [E0.out]; rfl, HGF.out⟩
  rw [results_cell_tmp rfl]; go_simp
 have heb : (RP.2 != 0) = false := by simp [he]
 by_cases hk0 : RP.1.kind = 0
 case pos =>
  have hkb : (RP.1.kind == 0) = true := by simp [hk0]
  replace E0 := LH (E0.out.trans (if_neg (fun h => h.2 hk0)))
  clear he hk0
  obtain ⟨hst, hgt⟩ := stored7 (.int .i64 0) (.int .i64 0) (.int .i64 0) (.int .i64 0) (.int .i64 0) (.int .i64 0) (.int .i64 0) HG.out (Nat.le_succ _) HZ.out
  obtain ⟨y0, y1, y2, y3, y4, y5, y6, yf⟩ := cells7 HZ.out
  have HSF := LH hst
  have HGF := LH hgt
  clear hst hgt
  go_wp2
  revert HSF HGF
  generalize ((((((((w1.alloc (.cells #[.int .i64 RP.1.kind, .int .i64 RP.1.off, .int .i64 RP.1.data, .int .i64 RP.1.ptrs, .int .i64 RP.1.size, .int .i64 RP.1.count, .int .i64 RP.1.seg, .bool RP.1.dbl] 120)).setCell ⟨w.heap.size + 1, 0, none⟩ (.int .i64 0)).setCell ⟨w.heap.size + 1, 1, none⟩ (.int .i64 0)).setCell ⟨w.heap.size + 1, 2, none⟩ (.int .i64 0)).setCell ⟨w.heap.size + 1, 3, none⟩ (.int .i64 0)).setCell ⟨w.heap.size + 1, 4, none⟩ (.int .i64 0)).setCell ⟨w.heap.size + 1, 5, none⟩ (.int .i64 0)).setCell ⟨w.heap.size + 1, 6, none⟩ (.int .i64 0)) = w9
  intro HSF HGF
  clear y0 y1 y2 y3 y4 y5 y6 yf
  obtain ⟨y0, y1, y2, y3, y4, y5, y6, yf⟩ := cells7 HSF.out
  refine bodyPost_ret (v := .tuple #[.agg #[.int .i64 0, .int .i64 0, .int .i64 0, .int .i64 0, .int .i64 0, .int .i64 0, .int .i64 0], .int .i64 RP.2]) ?_ rfl ⟨by rw [E0.out]; rfl, HGF.out⟩
  rw [results_cell_tmp rfl]; go_simp
 have hkb : (RP.1.kind == 0) = false := by simp [hk0]
 replace E0 := LH (E0.out.trans (if_pos ⟨he, hk0⟩))
 obtain ⟨hi0, hi1, hi2⟩ := HIN.out he
 clear he hk0
 go_wp2_with fail
 refine (show Calls Tryz.prog 224 #[.agg #[.int .i64 RP.1.kind, .int .i64 RP.1.off, .int .i64 RP.1.data, .int .i64 RP.1.ptrs, .int .i64 RP.1.size, .int .i64 RP.1.count, .int .i64 RP.1.seg, .bool RP.1.dbl]] _ (fun e w' => e = .returned (.bool (isNear RP.1)) ∧ Grow _ w') from qnear_calls RP.1 _).mono ?_
 rintro e w3 ⟨rfl, hg⟩
 replace HP8 := LH (Grow.heap hg HP8.out)
 replace HS := LH (Grow.heap hg HS.out)
 replace HZ := LH (Grow.heap hg HZ.out)
 replace HG := LH (HG.out.grow hg)
 replace H := LH (H.out.grow hg)
 clear hg c0 c1 c2 c3 c4 c5 c6 c7 cf heb hkb
 obtain ⟨c0, c1, c2, c3, c4, c5, c6, c7, cf⟩ := cells8 HP8.out
 obtain ⟨m0, m1, m2, mf⟩ := cells3 HS.out
 have hpo := HPO.out.o
 have hwa : IntKind.i64.wrap (at_ + 1) = at_ + 1 := IntWalk.i64_in _ (by omega)
 have hwb : IntKind.i64.wrap (at_ + 1 + RP.1.off) = at_ + 1 + RP.1.off := IntWalk.i64_in _ (by omega)
 rcases hnr : isNear RP.1 with _ | _
 case true =>
  replace E0 := LH (E0.out.trans (if_pos hnr))
  clear hnr
  obtain ⟨F, HFO⟩ : ∃ F, Hid (foundO (szs a) (obOf RP.1 seg (at_ + 1 + RP.1.off)) = F) := ⟨_, LH rfl⟩
  replace E0 := LH (E0.out.trans HFO.out)
  go_wp2
  refine region_cut NoB [0, 1, 2, 3, 4, 5, 6, 7] [] [0, 1, 6] [14] #[true, true, true, true, true, true, true, true, false, false, false, false, false, false, false, false] 8 rfl (by kernel_rfl) ?_
  refine ord_read rfl rfl rfl rfl rfl (fun _ _ _ _ h => h) ?_ ?_ ?_ ?_ ?_
  rotate_left 2
  ·intro w' hg; have q0 := hg.cell m0 (fun h => h); have q1 := hg.cell m1 (fun h => h); have q2 := hg.cell m2 (fun h => h); go_simp; with_reducible rfl
  ·simp only [Act.put, pB, pC, pD]; rfl
  refine ord_read rfl rfl rfl rfl rfl (fun _ _ _ _ h => h) ?_ ?_ ?_ ?_ ?_
  rotate_left 2
  ·intro w' hg; have q0 := hg.cell c0 (fun h => h); have q1 := hg.cell c1 (fun h => h); have q2 := hg.cell c2 (fun h => h); have q3 := hg.cell c3 (fun h => h); have q4 := hg.cell c4 (fun h => h); have q5 := hg.cell c5 (fun h => h); have q6 := hg.cell c6 (fun h => h); have q7 := hg.cell c7 (fun h => h); go_simp; with_reducible rfl
  ·simp only [Act.put, pB, pC, pD]; rfl
  iterate 4
   refine ord_pure rfl rfl rfl rfl rfl (fun _ _ _ _ h => h) ?_ ?_ ?_ ?_ ?_
   rotate_left 2
   ·intro w'; go_simp; with_reducible rfl
   ·simp only [Act.put, pB, pC, pD]; rfl
  refine ord_read rfl rfl rfl rfl rfl (fun _ _ _ _ h => h) ?_ ?_ ?_ ?_ ?_
  rotate_left 2
  ·intro w' hg; have q := hg.cell c1 (fun h => h); go_simp; with_reducible rfl
  ·simp only [Act.put, pB, pC, pD]; rfl
  refine ord_pure rfl rfl rfl rfl rfl (fun _ _ _ _ h => h) ?_ ?_ ?_ ?_ ?_
  rotate_left 2
  ·intro w'; go_simp; with_reducible rfl
  ·simp only [Act.put, pB, pC, pD]; rfl
  clear c0 c1 c2 c3 c4 c5 c6 c7 cf m0 m1 m2 mf
  refine ord_nil ?_
  have hgd := (Keep.refl NoB w3).drew
  replace HZ := LH (Grow.heap hgd HZ.out)
  replace HG := LH (HG.out.grow hgd)
  replace H := LH (H.out.grow hgd)
  clear hgd
  refine any_fork 8 13 #[true, true, true, true, true, true, true, true, true, false, false, false, false, false, false, false] #[true, true, true, true, true, true, true, true, false, false, false, false, false, true, false, false] (by kernel_rfl) ?_ ?_
  ·
   refine ord_call rfl rfl rfl rfl rfl Tryz.func226 rfl rfl [.agg #[.int .i64 RP.1.kind, .int .i64 RP.1.off, .int .i64 RP.1.data, .int .i64 RP.1.ptrs, .int .i64 RP.1.size, .int .i64 RP.1.count, .int .i64 RP.1.seg, .bool RP.1.dbl], .int .i64 seg, .int .i64 (at_ + 1 + RP.1.off)] rfl ?_
   refine (show Calls Tryz.prog 226 #[.agg #[.int .i64 RP.1.kind, .int .i64 RP.1.off, .int .i64 RP.1.data, .int .i64 RP.1.ptrs, .int .i64 RP.1.size, .int .i64 RP.1.count, .int .i64 RP.1.seg, .bool RP.1.dbl], .int .i64 seg, .int .i64 (at_ + 1 + RP.1.off)] _ (QObPost (obOf RP.1 seg (at_ + 1 + RP.1.off)) _) from qobj_calls RP.1 seg (at_ + 1 + RP.1.off) _).mono ?_
   rintro e wA ⟨rfl, hg⟩
   refine ⟨_, rfl, fun _ => hg, ?_⟩
   replace HZ := LH (Grow.heap hg HZ.out)
   replace HG := LH (HG.out.grow hg)
   replace H := LH (H.out.grow hg)
   have hgA := hg
   clear hg
   simp only [Act.put, pB, pC, pD]
   refine ord_nil ?_
   refine any_fork 9 13 #[true, true, true, true, true, true, true, true, true, true, false, false, false, false, false, false] #[true, true, true, true, true, true, true, true, true, false, false, false, false, true, false, false] (by kernel_rfl) ?_ ?_
   ·
    refine ord_call rfl rfl rfl rfl rfl Tryz.func225 rfl rfl [(.agg #[.slice A a.length c, .bool false, .slice none 0 0]), .agg #[.int .i64 (obOf RP.1 seg (at_ + 1 + RP.1.off)).kind, .int .i64 (obOf RP.1 seg (at_ + 1 + RP.1.off)).seg, .int .i64 (obOf RP.1 seg (at_ + 1 + RP.1.off)).at_, .int .i64 (obOf RP.1 seg (at_ + 1 + RP.1.off)).data, .int .i64 (obOf RP.1 seg (at_ + 1 + RP.1.off)).ptrs, .int .i64 (obOf RP.1 seg (at_ + 1 + RP.1.off)).size, .int .i64 (obOf RP.1 seg (at_ + 1 + RP.1.off)).count]] rfl ?_
    refine (show Calls Tryz.prog 225 #[(.agg #[.slice A a.length c, .bool false, .slice none 0 0]), .agg #[.int .i64 (obOf RP.1 seg (at_ + 1 + RP.1.off)).kind, .int .i64 (obOf RP.1 seg (at_ + 1 + RP.1.off)).seg, .int .i64 (obOf RP.1 seg (at_ + 1 + RP.1.off)).at_, .int .i64 (obOf RP.1 seg (at_ + 1 + RP.1.off)).data, .int .i64 (obOf RP.1 seg (at_ + 1 + RP.1.off)).ptrs, .int .i64 (obOf RP.1 seg (at_ + 1 + RP.1.off)).size, .int .i64 (obOf RP.1 seg (at_ + 1 + RP.1.off)).count]] _ (QFPost (foundO (szs a) (obOf RP.1 seg (at_ + 1 + RP.1.off))) _) from qbounds_calls a HA.out A c _ H.out (obOf RP.1 seg (at_ + 1 + RP.1.off)) (obOf_ok HPO.out seg (at_ + 1 + RP.1.off))).mono ?_
    rintro e wB ⟨rfl, hg⟩
    refine ⟨_, rfl, fun _ => hg, ?_⟩
    rw [HFO.out]
    replace HZ := LH (Grow.heap hg HZ.out)
    replace HG := LH (HG.out.grow hg)
    replace H := LH (H.out.grow hg)
    have hgB := hg
    clear hg
    simp only [Act.put, pB, pC, pD]
    refine ord_nil ?_
    refine any_cut (n := 3) [10, 11, 12] [] [] #[true, true, true, true, true, true, true, true, true, true, true, true, true, false, false, false] (by kernel_rfl) ?_
    iterate 3
     refine ord_pure rfl rfl rfl rfl rfl (fun _ _ _ _ h => h) ?_ ?_ ?_ ?_ ?_
     rotate_left 2
     ·intro w'; go_simp; with_reducible rfl
     ·simp only [Act.put, pB, pC, pD]; rfl
    refine ord_nil ?_
    refine any_ord [13, 14, 15] [13, 14, 15] [] (by kernel_rfl) ?_
    refine ord_new rfl rfl rfl rfl ?_ ?_ ?_ ?_ ?_ ?_
    rotate_left 3
    ·go_simp; first | with_reducible rfl | (constructor <;> with_reducible rfl)
    ·simp only [Act.put, pB, pC, pD]; rfl
    have hzn := heap_alloc_new wB (.cells #[.int .i64 0, .int .i64 0, .int .i64 0, .int .i64 0, .int .i64 0, .int .i64 0, .int .i64 0] 257)
    have hgn := (Keep.refl NoB wB).alloc (.cells #[.int .i64 0, .int .i64 0, .int .i64 0, .int .i64 0, .int .i64 0, .int .i64 0, .int .i64 0] 257)
    have hbn : w.heap.size + 1 < wB.heap.size := by have := (gE HZ.out).1; exact this
    obtain ⟨T, hT⟩ : ∃ T, wB.heap.size = T := ⟨_, rfl⟩
    generalize wB.alloc (.cells #[.int .i64 0, .int .i64 0, .int .i64 0, .int .i64 0, .int .i64 0, .int .i64 0, .int .i64 0] 257) = wN at hzn hgn ⊢
    skip
    rw [hT] at hzn hbn ⊢
    clear hT
    have HT := LH hzn
    have HB := LH hbn
    replace HZ := LH (Grow.heap hgn HZ.out)
    replace HG := LH (HG.out.grow hgn)
    replace H := LH (H.out.grow hgn)
    clear hzn hgn hbn
    have hzt := HT.out
    obtain ⟨t0, t1, t2, t3, t4, t5, t6, tf⟩ := cells7 hzt
    have hbt := HB.out
    obtain ⟨hst, hgt⟩ := stored7 (.int .i64 F.1.kind) (.int .i64 F.1.seg) (.int .i64 F.1.at_) (.int .i64 F.1.data) (.int .i64 F.1.ptrs) (.int .i64 F.1.size) (.int .i64 F.1.count) HG.out (by omega) hzt
    have hkt : Keep (fun j => j = T) wN (((((((wN.setCell ⟨T, 0, none⟩ (.int .i64 F.1.kind)).setCell ⟨T, 1, none⟩ (.int .i64 F.1.seg)).setCell ⟨T, 2, none⟩ (.int .i64 F.1.at_)).setCell ⟨T, 3, none⟩ (.int .i64 F.1.data)).setCell ⟨T, 4, none⟩ (.int .i64 F.1.ptrs)).setCell ⟨T, 5, none⟩ (.int .i64 F.1.size)).setCell ⟨T, 6, none⟩ (.int .i64 F.1.count)) := keepN7 _ _ _ _ _ _ _
    have hzr := (hkt.block (w.heap.size + 1) (gE HZ.out).1 (by omega)).trans HZ.out
    have HST := LH hst
    have HGT := LH hgt
    have HZT := LH hzr
    clear hst hgt hkt hzr hzt
    refine ord_put rfl rfl rfl rfl ?_ ?_ (fun h => absurd (by simp) h) ?_
    rotate_left
    ·go_simp; with_reducible rfl
    clear t0 t1 t2 t3 t4 t5 t6 tf
    revert HST HGT HZT
    generalize (((((((wN.setCell ⟨T, 0, none⟩ (.int .i64 F.1.kind)).setCell ⟨T, 1, none⟩ (.int .i64 F.1.seg)).setCell ⟨T, 2, none⟩ (.int .i64 F.1.at_)).setCell ⟨T, 3, none⟩ (.int .i64 F.1.data)).setCell ⟨T, 4, none⟩ (.int .i64 F.1.ptrs)).setCell ⟨T, 5, none⟩ (.int .i64 F.1.size)).setCell ⟨T, 6, none⟩ (.int .i64 F.1.count)) = wT
    intro HST HGT HZT
    refine ord_set rfl rfl rfl rfl ?_ ?_ ?_ ?_ ?_
    rotate_left 2
    ·go_simp; with_reducible rfl
    ·simp only [Act.put, pB, pC, pD]; rfl
    refine ord_nil ?_
    obtain ⟨t0, t1, t2, t3, t4, t5, t6, tf⟩ := cells7 HST.out
    have hneT : w.heap.size + 1 ≠ T := by have := HB.out; omega
    have hneT2 : T ≠ w.heap.size + 1 := fun e => hneT e.symm
    obtain ⟨hst, hgt⟩ := stored7 (.int .i64 F.1.kind) (.int .i64 F.1.seg) (.int .i64 F.1.at_) (.int .i64 F.1.data) (.int .i64 F.1.ptrs) (.int .i64 F.1.size) (.int .i64 F.1.count) HGT.out (Nat.le_succ _) HZT.out
    obtain ⟨y0, y1, y2, y3, y4, y5, y6, yf⟩ := cells7 HZT.out
    have HSF := LH hst
    have HGF := LH hgt
    clear hst hgt
    go_wp2
    revert HSF HGF
    generalize (((((((wT.setCell ⟨w.heap.size + 1, 0, none⟩ (.int .i64 F.1.kind)).setCell ⟨w.heap.size + 1, 1, none⟩ (.int .i64 F.1.seg)).setCell ⟨w.heap.size + 1, 2, none⟩ (.int .i64 F.1.at_)).setCell ⟨w.heap.size + 1, 3, none⟩ (.int .i64 F.1.data)).setCell ⟨w.heap.size + 1, 4, none⟩ (.int .i64 F.1.ptrs)).setCell ⟨w.heap.size + 1, 5, none⟩ (.int .i64 F.1.size)).setCell ⟨w.heap.size + 1, 6, none⟩ (.int .i64 F.1.count)) = w9
    intro HSF HGF
    clear y0 y1 y2 y3 y4 y5 y6 yf
    obtain ⟨y0, y1, y2, y3, y4, y5, y6, yf⟩ := cells7 HSF.out
    refine bodyPost_ret (v := .tuple #[.agg #[.int .i64 F.1.kind, .int .i64 F.1.seg, .int .i64 F.1.at_, .int .i64 F.1.data, .int .i64 F.1.ptrs, .int .i64 F.1.size, .int .i64 F.1.count], .int .i64 F.2]) ?_ rfl ⟨by rw [E0.out], HGF.out⟩
    rw [results_cell_tmp rfl]; go_simp
   ·
    refine ord_new rfl rfl rfl rfl ?_ ?_ ?_ ?_ ?_ ?_
    rotate_left 3
    ·go_simp; first | with_reducible rfl | (constructor <;> with_reducible rfl)
    ·simp only [Act.put, pB, pC, pD]; rfl
    have hzn := heap_alloc_new wA (.cells #[.int .i64 0, .int .i64 0, .int .i64 0, .int .i64 0, .int .i64 0, .int .i64 0, .int .i64 0] 257)
    have hgn := (Keep.refl NoB wA).alloc (.cells #[.int .i64 0, .int .i64 0, .int .i64 0, .int .i64 0, .int .i64 0, .int .i64 0, .int .i64 0] 257)
    have hbn : w.heap.size + 1 < wA.heap.size := by have := (gE HZ.out).1; exact this
    obtain ⟨T, hT⟩ : ∃ T, wA.heap.size = T := ⟨_, rfl⟩
    generalize wA.alloc (.cells #[.int .i64 0, .int .i64 0, .int .i64 0, .int .i64 0, .int .i64 0, .int .i64 0, .int .i64 0] 257) = wN at hzn hgn ⊢
    skip
    rw [hT] at hzn hbn ⊢
    clear hT
    have HT := LH hzn
    have HB := LH hbn
    replace HZ := LH (Grow.heap hgn HZ.out)
    replace HG := LH (HG.out.grow hgn)
    replace H := LH (H.out.grow hgn)
    clear hzn hgn hbn
    refine ord_nil ?_
    refine any_ord [9, 10, 11, 12, 14, 15] [9, 14, 15] [] (by kernel_rfl) ?_
    refine ord_call rfl rfl rfl rfl rfl Tryz.func225 rfl rfl [(.agg #[.slice A a.length c, .bool false, .slice none 0 0]), .agg #[.int .i64 (obOf RP.1 seg (at_ + 1 + RP.1.off)).kind, .int .i64 (obOf RP.1 seg (at_ + 1 + RP.1.off)).seg, .int .i64 (obOf RP.1 seg (at_ + 1 + RP.1.off)).at_, .int .i64 (obOf RP.1 seg (at_ + 1 + RP.1.off)).data, .int .i64 (obOf RP.1 seg (at_ + 1 + RP.1.off)).ptrs, .int .i64 (obOf RP.1 seg (at_ + 1 + RP.1.off)).size, .int .i64 (obOf RP.1 seg (at_ + 1 + RP.1.off)).count]] rfl ?_
    refine (show Calls Tryz.prog 225 #[(.agg #[.slice A a.length c, .bool false, .slice none 0 0]), .agg #[.int .i64 (obOf RP.1 seg (at_ + 1 + RP.1.off)).kind, .int .i64 (obOf RP.1 seg (at_ + 1 + RP.1.off)).seg, .int .i64 (obOf RP.1 seg (at_ + 1 + RP.1.off)).at_, .int .i64 (obOf RP.1 seg (at_ + 1 + RP.1.off)).data, .int .i64 (obOf RP.1 seg (at_ + 1 + RP.1.off)).ptrs, .int .i64 (obOf RP.1 seg (at_ + 1 + RP.1.off)).size, .int .i64 (obOf RP.1 seg (at_ + 1 + RP.1.off)).count]] _ (QFPost (foundO (szs a) (obOf RP.1 seg (at_ + 1 + RP.1.off))) _) from qbounds_calls a HA.out A c _ H.out (obOf RP.1 seg (at_ + 1 + RP.1.off)) (obOf_ok HPO.out seg (at_ + 1 + RP.1.off))).mono ?_
    rintro e wB ⟨rfl, hg⟩
    refine ⟨_, rfl, fun _ => hg, ?_⟩
    rw [HFO.out]
    replace HZ := LH (Grow.heap hg HZ.out)
    replace HG := LH (HG.out.grow hg)
    replace H := LH (H.out.grow hg)
    have hgB := hg
    clear hg
    simp only [Act.put, pB, pC, pD]
    replace HT := LH (Grow.heap hgB HT.out)
    iterate 3
     refine ord_pure rfl rfl rfl rfl rfl (fun _ _ _ _ h => h) ?_ ?_ ?_ ?_ ?_
     rotate_left 2
     ·intro w'; go_simp; with_reducible rfl
     ·simp only [Act.put, pB, pC, pD]; rfl
    have hzt := HT.out
    obtain ⟨t0, t1, t2, t3, t4, t5, t6, tf⟩ := cells7 hzt
    have hbt := HB.out
    obtain ⟨hst, hgt⟩ := stored7 (.int .i64 F.1.kind) (.int .i64 F.1.seg) (.int .i64 F.1.at_) (.int .i64 F.1.data) (.int .i64 F.1.ptrs) (.int .i64 F.1.size) (.int .i64 F.1.count) HG.out (by omega) hzt
    have hkt : Keep (fun j => j = T) wB (((((((wB.setCell ⟨T, 0, none⟩ (.int .i64 F.1.kind)).setCell ⟨T, 1, none⟩ (.int .i64 F.1.seg)).setCell ⟨T, 2, none⟩ (.int .i64 F.1.at_)).setCell ⟨T, 3, none⟩ (.int .i64 F.1.data)).setCell ⟨T, 4, none⟩ (.int .i64 F.1.ptrs)).setCell ⟨T, 5, none⟩ (.int .i64 F.1.size)).setCell ⟨T, 6, none⟩ (.int .i64 F.1.count)) := keepN7 _ _ _ _ _ _ _
    have hzr := (hkt.block (w.heap.size + 1) (gE HZ.out).1 (by omega)).trans HZ.out
    have HST := LH hst
    have HGT := LH hgt
    have HZT := LH hzr
    clear hst hgt hkt hzr hzt
    refine ord_put rfl rfl rfl rfl ?_ ?_ (fun h => absurd (by simp) h) ?_
    rotate_left
    ·go_simp; with_reducible rfl
    clear t0 t1 t2 t3 t4 t5 t6 tf
    revert HST HGT HZT
    generalize (((((((wB.setCell ⟨T, 0, none⟩ (.int .i64 F.1.kind)).setCell ⟨T, 1, none⟩ (.int .i64 F.1.seg)).setCell ⟨T, 2, none⟩ (.int .i64 F.1.at_)).setCell ⟨T, 3, none⟩ (.int .i64 F.1.data)).setCell ⟨T, 4, none⟩ (.int .i64 F.1.ptrs)).setCell ⟨T, 5, none⟩ (.int .i64 F.1.size)).setCell ⟨T, 6, none⟩ (.int .i64 F.1.count)) = wT
    intro HST HGT HZT
    refine ord_set rfl rfl rfl rfl ?_ ?_ ?_ ?_ ?_
    rotate_left 2
    ·go_simp; with_reducible rfl
    ·simp only [Act.put, pB, pC, pD]; rfl
    refine ord_nil ?_
    obtain ⟨t0, t1, t2, t3, t4, t5, t6, tf⟩ := cells7 HST.out
    have hneT : w.heap.size + 1 ≠ T := by have := HB.out; omega
    have hneT2 : T ≠ w.heap.size + 1 := fun e => hneT e.symm
    obtain ⟨hst, hgt⟩ := stored7 (.int .i64 F.1.kind) (.int .i64 F.1.seg) (.int .i64 F.1.at_) (.int .i64 F.1.data) (.int .i64 F.1.ptrs) (.int .i64 F.1.size) (.int .i64 F.1.count) HGT.out (Nat.le_succ _) HZT.out
    obtain ⟨y0, y1, y2, y3, y4, y5, y6, yf⟩ := cells7 HZT.out
    have HSF := LH hst
    have HGF := LH hgt
    clear hst hgt
    go_wp2
    revert HSF HGF
    generalize (((((((wT.setCell ⟨w.heap.size + 1, 0, none⟩ (.int .i64 F.1.kind)).setCell ⟨w.heap.size + 1, 1, none⟩ (.int .i64 F.1.seg)).setCell ⟨w.heap.size + 1, 2, none⟩ (.int .i64 F.1.at_)).setCell ⟨w.heap.size + 1, 3, none⟩ (.int .i64 F.1.data)).setCell ⟨w.heap.size + 1, 4, none⟩ (.int .i64 F.1.ptrs)).setCell ⟨w.heap.size + 1, 5, none⟩ (.int .i64 F.1.size)).setCell ⟨w.heap.size + 1, 6, none⟩ (.int .i64 F.1.count)) = w9
    intro HSF HGF
    clear y0 y1 y2 y3 y4 y5 y6 yf
    obtain ⟨y0, y1, y2, y3, y4, y5, y6, yf⟩ := cells7 HSF.out
    refine bodyPost_ret (v := .tuple #[.agg #[.int .i64 F.1.kind, .int .i64 F.1.seg, .int .i64 F.1.at_, .int .i64 F.1.data, .int .i64 F.1.ptrs, .int .i64 F.1.size, .int .i64 F.1.count], .int .i64 F.2]) ?_ rfl ⟨by rw [E0.out], HGF.out⟩
    rw [results_cell_tmp rfl]; go_simp
  ·
   refine ord_new rfl rfl rfl rfl ?_ ?_ ?_ ?_ ?_ ?_
   rotate_left 3
   ·go_simp; first | with_reducible rfl | (constructor <;> with_reducible rfl)
   ·simp only [Act.put, pB, pC, pD]; rfl
   have hzn := heap_alloc_new w3.drew (.cells #[.int .i64 0, .int .i64 0, .int .i64 0, .int .i64 0, .int .i64 0, .int .i64 0, .int .i64 0] 257)
   have hgn := (Keep.refl NoB w3.drew).alloc (.cells #[.int .i64 0, .int .i64 0, .int .i64 0, .int .i64 0, .int .i64 0, .int .i64 0, .int .i64 0] 257)
   have hbn : w.heap.size + 1 < w3.drew.heap.size := by have := (gE HZ.out).1; exact this
   obtain ⟨T, hT⟩ : ∃ T, w3.heap.size = T := ⟨_, rfl⟩
   generalize w3.drew.alloc (.cells #[.int .i64 0, .int .i64 0, .int .i64 0, .int .i64 0, .int .i64 0, .int .i64 0, .int .i64 0] 257) = wN at hzn hgn ⊢
   rw [show w3.drew.heap.size = w3.heap.size from rfl] at hzn hbn
   rw [hT] at hzn hbn ⊢
   clear hT
   have HT := LH hzn
   have HB := LH hbn
   replace HZ := LH (Grow.heap hgn HZ.out)
   replace HG := LH (HG.out.grow hgn)
   replace H := LH (H.out.grow hgn)
   clear hzn hgn hbn
   refine ord_nil ?_
   refine any_ord [8, 9, 10, 11, 12, 14, 15] [8, 9, 14, 15] [] (by kernel_rfl) ?_
   refine ord_call rfl rfl rfl rfl rfl Tryz.func226 rfl rfl [.agg #[.int .i64 RP.1.kind, .int .i64 RP.1.off, .int .i64 RP.1.data, .int .i64 RP.1.ptrs, .int .i64 RP.1.size, .int .i64 RP.1.count, .int .i64 RP.1.seg, .bool RP.1.dbl], .int .i64 seg, .int .i64 (at_ + 1 + RP.1.off)] rfl ?_
   refine (show Calls Tryz.prog 226 #[.agg #[.int .i64 RP.1.kind, .int .i64 RP.1.off, .int .i64 RP.1.data, .int .i64 RP.1.ptrs, .int .i64 RP.1.size, .int .i64 RP.1.count, .int .i64 RP.1.seg, .bool RP.1.dbl], .int .i64 seg, .int .i64 (at_ + 1 + RP.1.off)] _ (QObPost (obOf RP.1 seg (at_ + 1 + RP.1.off)) _) from qobj_calls RP.1 seg (at_ + 1 + RP.1.off) _).mono ?_
   rintro e wA ⟨rfl, hg⟩
   refine ⟨_, rfl, fun _ => hg, ?_⟩
   replace HZ := LH (Grow.heap hg HZ.out)
   replace HG := LH (HG.out.grow hg)
   replace H := LH (H.out.grow hg)
   have hgA := hg
   clear hg
   simp only [Act.put, pB, pC, pD]
   replace HT := LH (Grow.heap hgA HT.out)
   refine ord_call rfl rfl rfl rfl rfl Tryz.func225 rfl rfl [(.agg #[.slice A a.length c, .bool false, .slice none 0 0]), .agg #[.int .i64 (obOf RP.1 seg (at_ + 1 + RP.1.off)).kind, .int .i64 (obOf RP.1 seg (at_ + 1 + RP.1.off)).seg, .int .i64 (obOf RP.1 seg (at_ + 1 + RP.1.off)).at_, .int .i64 (obOf RP.1 seg (at_ + 1 + RP.1.off)).data, .int .i64 (obOf RP.1 seg (at_ + 1 + RP.1.off)).ptrs, .int .i64 (obOf RP.1 seg (at_ + 1 + RP.1.off)).size, .int .i64 (obOf RP.1 seg (at_ + 1 + RP.1.off)).count]] rfl ?_
   refine (show Calls Tryz.prog 225 #[(.agg #[.slice A a.length c, .bool false, .slice none 0 0]), .agg #[.int .i64 (obOf RP.1 seg (at_ + 1 + RP.1.off)).kind, .int .i64 (obOf RP.1 seg (at_ + 1 + RP.1.off)).seg, .int .i64 (obOf RP.1 seg (at_ + 1 + RP.1.off)).at_, .int .i64 (obOf RP.1 seg (at_ + 1 + RP.1.off)).data, .int .i64 (obOf RP.1 seg (at_ + 1 + RP.1.off)).ptrs, .int .i64 (obOf RP.1 seg (at_ + 1 + RP.1.off)).size, .int .i64 (obOf RP.1 seg (at_ + 1 + RP.1.off)).count]] _ (QFPost (foundO (szs a) (obOf RP.1 seg (at_ + 1 + RP.1.off))) _) from qbounds_calls a HA.out A c _ H.out (obOf RP.1 seg (at_ + 1 + RP.1.off)) (obOf_ok HPO.out seg (at_ + 1 + RP.1.off))).mono ?_
   rintro e wB ⟨rfl, hg⟩
   refine ⟨_, rfl, fun _ => hg, ?_⟩
   rw [HFO.out]
   replace HZ := LH (Grow.heap hg HZ.out)
   replace HG := LH (HG.out.grow hg)
   replace H := LH (H.out.grow hg)
   have hgB := hg
   clear hg
   simp only [Act.put, pB, pC, pD]
   replace HT := LH (Grow.heap hgB HT.out)
   iterate 3
    refine ord_pure rfl rfl rfl rfl rfl (fun _ _ _ _ h => h) ?_ ?_ ?_ ?_ ?_
    rotate_left 2
    ·intro w'; go_simp; with_reducible rfl
    ·simp only [Act.put, pB, pC, pD]; rfl
   have hzt := HT.out
   obtain ⟨t0, t1, t2, t3, t4, t5, t6, tf⟩ := cells7 hzt
   have hbt := HB.out
   obtain ⟨hst, hgt⟩ := stored7 (.int .i64 F.1.kind) (.int .i64 F.1.seg) (.int .i64 F.1.at_) (.int .i64 F.1.data) (.int .i64 F.1.ptrs) (.int .i64 F.1.size) (.int .i64 F.1.count) HG.out (by omega) hzt
   have hkt : Keep (fun j => j = T) wB (((((((wB.setCell ⟨T, 0, none⟩ (.int .i64 F.1.kind)).setCell ⟨T, 1, none⟩ (.int .i64 F.1.seg)).setCell ⟨T, 2, none⟩ (.int .i64 F.1.at_)).setCell ⟨T, 3, none⟩ (.int .i64 F.1.data)).setCell ⟨T, 4, none⟩ (.int .i64 F.1.ptrs)).setCell ⟨T, 5, none⟩ (.int .i64 F.1.size)).setCell ⟨T, 6, none⟩ (.int .i64 F.1.count)) := keepN7 _ _ _ _ _ _ _
   have hzr := (hkt.block (w.heap.size + 1) (gE HZ.out).1 (by omega)).trans HZ.out
   have HST := LH hst
   have HGT := LH hgt
   have HZT := LH hzr
   clear hst hgt hkt hzr hzt
   refine ord_put rfl rfl rfl rfl ?_ ?_ (fun h => absurd (by simp) h) ?_
   rotate_left
   ·go_simp; with_reducible rfl
   clear t0 t1 t2 t3 t4 t5 t6 tf
   revert HST HGT HZT
   generalize (((((((wB.setCell ⟨T, 0, none⟩ (.int .i64 F.1.kind)).setCell ⟨T, 1, none⟩ (.int .i64 F.1.seg)).setCell ⟨T, 2, none⟩ (.int .i64 F.1.at_)).setCell ⟨T, 3, none⟩ (.int .i64 F.1.data)).setCell ⟨T, 4, none⟩ (.int .i64 F.1.ptrs)).setCell ⟨T, 5, none⟩ (.int .i64 F.1.size)).setCell ⟨T, 6, none⟩ (.int .i64 F.1.count)) = wT
   intro HST HGT HZT
   refine ord_set rfl rfl rfl rfl ?_ ?_ ?_ ?_ ?_
   rotate_left 2
   ·go_simp; with_reducible rfl
   ·simp only [Act.put, pB, pC, pD]; rfl
   refine ord_nil ?_
   obtain ⟨t0, t1, t2, t3, t4, t5, t6, tf⟩ := cells7 HST.out
   have hneT : w.heap.size + 1 ≠ T := by have := HB.out; omega
   have hneT2 : T ≠ w.heap.size + 1 := fun e => hneT e.symm
   obtain ⟨hst, hgt⟩ := stored7 (.int .i64 F.1.kind) (.int .i64 F.1.seg) (.int .i64 F.1.at_) (.int .i64 F.1.data) (.int .i64 F.1.ptrs) (.int .i64 F.1.size) (.int .i64 F.1.count) HGT.out (Nat.le_succ _) HZT.out
   obtain ⟨y0, y1, y2, y3, y4, y5, y6, yf⟩ := cells7 HZT.out
   have HSF := LH hst
   have HGF := LH hgt
   clear hst hgt
   go_wp2
   revert HSF HGF
   generalize (((((((wT.setCell ⟨w.heap.size + 1, 0, none⟩ (.int .i64 F.1.kind)).setCell ⟨w.heap.size + 1, 1, none⟩ (.int .i64 F.1.seg)).setCell ⟨w.heap.size + 1, 2, none⟩ (.int .i64 F.1.at_)).setCell ⟨w.heap.size + 1, 3, none⟩ (.int .i64 F.1.data)).setCell ⟨w.heap.size + 1, 4, none⟩ (.int .i64 F.1.ptrs)).setCell ⟨w.heap.size + 1, 5, none⟩ (.int .i64 F.1.size)).setCell ⟨w.heap.size + 1, 6, none⟩ (.int .i64 F.1.count)) = w9
   intro HSF HGF
   clear y0 y1 y2 y3 y4 y5 y6 yf
   obtain ⟨y0, y1, y2, y3, y4, y5, y6, yf⟩ := cells7 HSF.out
   refine bodyPost_ret (v := .tuple #[.agg #[.int .i64 F.1.kind, .int .i64 F.1.seg, .int .i64 F.1.at_, .int .i64 F.1.data, .int .i64 F.1.ptrs, .int .i64 F.1.size, .int .i64 F.1.count], .int .i64 F.2]) ?_ rfl ⟨by rw [E0.out], HGF.out⟩
   rw [results_cell_tmp rfl]; go_simp
 case false =>
  replace E0 := LH (E0.out.trans (if_neg (by rw [hnr]; simp)))
  clear hnr hwa hwb
  rcases hdb : RP.1.dbl with _ | _
  case true =>
   replace E0 := LH ((E0.out.trans (if_pos hdb)).trans (twiceP_eq _ _ _))
   have HDC := LH (show Calls Tryz.prog 227 #[.agg #[.slice A a.length c, .bool false, .slice none 0 0], .agg #[.int .i64 RP.1.kind, .int .i64 RP.1.off, .int .i64 RP.1.data, .int .i64 RP.1.ptrs, .int .i64 RP.1.size, .int .i64 RP.1.count, .int .i64 RP.1.seg, .bool RP.1.dbl]] w3 (QFPost (twiceO (wordA a) RP.1) w3) from qdouble_calls a HA.out A c w3 H.out RP.1 HPO.out)
   have HDO := LH (twiceO_ok HSO.out RP.1)
   rw [hdb] at c7 HDC
   generalize twiceO (wordA a) RP.1 = D at *
   clear hdb
   go_wp2_with fail
   refine HDC.out.mono ?_
   rintro e w4 ⟨rfl, hg⟩
   have hgd := (Keep.refl NoB w4).alloc (.cells #[.int .i64 D.1.kind, .int .i64 D.1.seg, .int .i64 D.1.at_, .int .i64 D.1.data, .int .i64 D.1.ptrs, .int .i64 D.1.size, .int .i64 D.1.count] 257)
   have HDB := LH (heap_alloc_new w4 (.cells #[.int .i64 D.1.kind, .int .i64 D.1.seg, .int .i64 D.1.at_, .int .i64 D.1.data, .int .i64 D.1.ptrs, .int .i64 D.1.size, .int .i64 D.1.count] 257))
   have hz4 := Grow.heap hg HZ.out
   have hb4 : w.heap.size + 1 < w4.heap.size := (gE hz4).1
   have hne3 : w4.heap.size ≠ w.heap.size + 1 := by omega
   have hne4 : w.heap.size + 1 ≠ w4.heap.size := by omega
   replace HS := LH (Grow.heap (hg.grow hgd) HS.out)
   replace HZ := LH (Grow.heap (hg.grow hgd) HZ.out)
   replace HG := LH (HG.out.grow (hg.grow hgd))
   replace H := LH (H.out.grow (hg.grow hgd))
   clear hg hgd hz4 hb4 c0 c1 c2 c3 c4 c5 c6 c7 cf m0 m1 m2 mf HDC
   obtain ⟨d0, d1, d2, d3, d4, d5, d6, df⟩ := cells7 HDB.out
   obtain ⟨m0, m1, m2, mf⟩ := cells3 HS.out
   by_cases hde : D.2 = 0
   case neg =>
    have heb : (D.2 != 0) = true := by simp [hde]
    replace E0 := LH (E0.out.trans (if_neg hde))
    clear hde
    obtain ⟨hst, hgt⟩ := stored7 (.int .i64 0) (.int .i64 0) (.int .i64 0) (.int .i64 0) (.int .i64 0) (.int .i64 0) (.int .i64 0) HG.out (Nat.le_succ _) HZ.out
    obtain ⟨y0, y1, y2, y3, y4, y5, y6, yf⟩ := cells7 HZ.out
    have HSF := LH hst
    have HGF := LH hgt
    clear hst hgt
    go_wp2
    revert HSF HGF
    generalize ((((((((w4.alloc (.cells #[.int .i64 D.1.kind, .int .i64 D.1.seg, .int .i64 D.1.at_, .int .i64 D.1.data, .int .i64 D.1.ptrs, .int .i64 D.1.size, .int .i64 D.1.count] 257)).setCell ⟨w.heap.size + 1, 0, none⟩ (.int .i64 0)).setCell ⟨w.heap.size + 1, 1, none⟩ (.int .i64 0)).setCell ⟨w.heap.size + 1, 2, none⟩ (.int .i64 0)).setCell ⟨w.heap.size + 1, 3, none⟩ (.int .i64 0)).setCell ⟨w.heap.size + 1, 4, none⟩ (.int .i64 0)).setCell ⟨w.heap.size + 1, 5, none⟩ (.int .i64 0)).setCell ⟨w.heap.size + 1, 6, none⟩ (.int .i64 0)) = w9
    intro HSF HGF
    clear y0 y1 y2 y3 y4 y5 y6 yf
    obtain ⟨y0, y1, y2, y3, y4, y5, y6, yf⟩ := cells7 HSF.out
    refine bodyPost_ret (v := .tuple #[.agg #[.int .i64 0, .int .i64 0, .int .i64 0, .int .i64 0, .int .i64 0, .int .i64 0, .int .i64 0], .int .i64 D.2]) ?_ rfl ⟨by rw [E0.out]; rfl, HGF.out⟩
    rw [results_cell_tmp rfl]; go_simp
   have heb : (D.2 != 0) = false := by simp [hde]
   replace E0 := LH (E0.out.trans (if_pos hde))
   clear hde
   have HBC := LH (qbounds_calls a HA.out A c _ H.out D.1 HDO.out)
   generalize foundO (szs a) D.1 = F at *
   go_wp2_with fail
   refine HBC.out.mono ?_
   rintro e w5 ⟨rfl, hg⟩
   have hgf := (Keep.refl NoB w5).alloc (.cells #[.int .i64 F.1.kind, .int .i64 F.1.seg, .int .i64 F.1.at_, .int .i64 F.1.data, .int .i64 F.1.ptrs, .int .i64 F.1.size, .int .i64 F.1.count] 257)
   have hfb := heap_alloc_new w5 (.cells #[.int .i64 F.1.kind, .int .i64 F.1.seg, .int .i64 F.1.at_, .int .i64 F.1.data, .int .i64 F.1.ptrs, .int .i64 F.1.size, .int .i64 F.1.count] 257)
   have hz5 := Grow.heap hg HZ.out
   have hb5 : w.heap.size + 1 < w5.heap.size := (gE hz5).1
   have hne5 : w5.heap.size ≠ w.heap.size + 1 := by omega
   have hne6 : w.heap.size + 1 ≠ w5.heap.size := by omega
   replace HZ := LH (Grow.heap (hg.grow hgf) HZ.out)
   replace HG := LH (HG.out.grow (hg.grow hgf))
   replace H := LH (H.out.grow (hg.grow hgf))
   clear hg hgf hz5 hb5 d0 d1 d2 d3 d4 d5 d6 df m0 m1 m2 mf HBC heb
   obtain ⟨d0, d1, d2, d3, d4, d5, d6, df⟩ := cells7 hfb
   clear hfb
   obtain ⟨hst, hgt⟩ := stored7 (.int .i64 F.1.kind) (.int .i64 F.1.seg) (.int .i64 F.1.at_) (.int .i64 F.1.data) (.int .i64 F.1.ptrs) (.int .i64 F.1.size) (.int .i64 F.1.count) HG.out (Nat.le_succ _) HZ.out
   obtain ⟨y0, y1, y2, y3, y4, y5, y6, yf⟩ := cells7 HZ.out
   have HSF := LH hst
   have HGF := LH hgt
   clear hst hgt
   go_wp2
   revert HSF HGF
   generalize ((((((((w5.alloc (.cells #[.int .i64 F.1.kind, .int .i64 F.1.seg, .int .i64 F.1.at_, .int .i64 F.1.data, .int .i64 F.1.ptrs, .int .i64 F.1.size, .int .i64 F.1.count] 257)).setCell ⟨w.heap.size + 1, 0, none⟩ (.int .i64 F.1.kind)).setCell ⟨w.heap.size + 1, 1, none⟩ (.int .i64 F.1.seg)).setCell ⟨w.heap.size + 1, 2, none⟩ (.int .i64 F.1.at_)).setCell ⟨w.heap.size + 1, 3, none⟩ (.int .i64 F.1.data)).setCell ⟨w.heap.size + 1, 4, none⟩ (.int .i64 F.1.ptrs)).setCell ⟨w.heap.size + 1, 5, none⟩ (.int .i64 F.1.size)).setCell ⟨w.heap.size + 1, 6, none⟩ (.int .i64 F.1.count)) = w9
   intro HSF HGF
   clear y0 y1 y2 y3 y4 y5 y6 yf
   obtain ⟨y0, y1, y2, y3, y4, y5, y6, yf⟩ := cells7 HSF.out
   refine bodyPost_ret (v := .tuple #[.agg #[.int .i64 F.1.kind, .int .i64 F.1.seg, .int .i64 F.1.at_, .int .i64 F.1.data, .int .i64 F.1.ptrs, .int .i64 F.1.size, .int .i64 F.1.count], .int .i64 F.2]) ?_ rfl ⟨by rw [E0.out], HGF.out⟩
   rw [results_cell_tmp rfl]; go_simp
  replace E0 := LH (E0.out.trans (if_neg (by rw [hdb]; simp)))
  have E1 : Hid (landedP (szs a) (wordA a) RP.1 = if (ptrAt (wordA a) RP.1.seg RP.1.off).2 = 0 then if isNear (ptrAt (wordA a) RP.1.seg RP.1.off).1 then foundO (szs a) (obOf (ptrAt (wordA a) RP.1.seg RP.1.off).1 RP.1.seg (RP.1.off + 1 + (ptrAt (wordA a) RP.1.seg RP.1.off).1.off)) else (ob0, 23) else (ob0, (ptrAt (wordA a) RP.1.seg RP.1.off).2)) := LH rfl
  replace E0 := LH (E0.out.trans E1.out)
  have HPQ := LH (ptrAt_ok HSO.out RP.1.seg RP.1.off)
  have HPT := LH (qptr_calls a HA.out A c w3 H.out RP.1.seg RP.1.off)
  have HQ : Hid (∀ e w' w0, QPAPost (wordA a) RP.1.seg RP.1.off w0 e w' → e = .returned (.tuple #[.agg #[.int .i64 (ptrAt (wordA a) RP.1.seg RP.1.off).1.kind, .int .i64 (ptrAt (wordA a) RP.1.seg RP.1.off).1.off, .int .i64 (ptrAt (wordA a) RP.1.seg RP.1.off).1.data, .int .i64 (ptrAt (wordA a) RP.1.seg RP.1.off).1.ptrs, .int .i64 (ptrAt (wordA a) RP.1.seg RP.1.off).1.size, .int .i64 (ptrAt (wordA a) RP.1.seg RP.1.off).1.count, .int .i64 (ptrAt (wordA a) RP.1.seg RP.1.off).1.seg, .bool (ptrAt (wordA a) RP.1.seg RP.1.off).1.dbl], .int .i64 (ptrAt (wordA a) RP.1.seg RP.1.off).2]) ∧ Grow w0 w') := LH (fun _ _ _ h => h)
  rw [hdb] at c7
  clear hdb E1
  go_wp2_with fail
  refine HPT.out.mono ?_
  intro e w4 hpost
  replace hpost := HQ.out _ _ _ hpost
  clear HPT HQ
  generalize ptrAt (wordA a) RP.1.seg RP.1.off = RQ at *
  obtain ⟨rfl, hg⟩ := hpost
  have hg8 := (Keep.refl NoB w4).alloc (.cells #[.int .i64 RQ.1.kind, .int .i64 RQ.1.off, .int .i64 RQ.1.data, .int .i64 RQ.1.ptrs, .int .i64 RQ.1.size, .int .i64 RQ.1.count, .int .i64 RQ.1.seg, .bool RQ.1.dbl] 120)
  have HQ8 := LH (heap_alloc_new w4 (.cells #[.int .i64 RQ.1.kind, .int .i64 RQ.1.off, .int .i64 RQ.1.data, .int .i64 RQ.1.ptrs, .int .i64 RQ.1.size, .int .i64 RQ.1.count, .int .i64 RQ.1.seg, .bool RQ.1.dbl] 120))
  have hz4 := Grow.heap hg HZ.out
  have hb4 : w.heap.size + 1 < w4.heap.size := (gE hz4).1
  have hne3 : w4.heap.size ≠ w.heap.size + 1 := by omega
  have hne4 : w.heap.size + 1 ≠ w4.heap.size := by omega
  replace HS := LH (Grow.heap (hg.grow hg8) HS.out)
  replace HP8 := LH (Grow.heap (hg.grow hg8) HP8.out)
  replace HZ := LH (Grow.heap (hg.grow hg8) HZ.out)
  replace HG := LH (HG.out.grow (hg.grow hg8))
  replace H := LH (H.out.grow (hg.grow hg8))
  clear hg hg8 hz4 hb4 c0 c1 c2 c3 c4 c5 c6 c7 cf m0 m1 m2 mf
  obtain ⟨q0, q1, q2, q3, q4, q5, q6, q7, qf⟩ := cells8 HQ8.out
  by_cases he : RQ.2 = 0
  case neg =>
   have heb : (RQ.2 != 0) = true := by simp [he]
   replace E0 := LH (E0.out.trans (if_neg he))
   clear he
   obtain ⟨hst, hgt⟩ := stored7 (.int .i64 0) (.int .i64 0) (.int .i64 0) (.int .i64 0) (.int .i64 0) (.int .i64 0) (.int .i64 0) HG.out (Nat.le_succ _) HZ.out
   obtain ⟨y0, y1, y2, y3, y4, y5, y6, yf⟩ := cells7 HZ.out
   have HSF := LH hst
   have HGF := LH hgt
   clear hst hgt
   go_wp2
   revert HSF HGF
   generalize ((((((((w4.alloc (.cells #[.int .i64 RQ.1.kind, .int .i64 RQ.1.off, .int .i64 RQ.1.data, .int .i64 RQ.1.ptrs, .int .i64 RQ.1.size, .int .i64 RQ.1.count, .int .i64 RQ.1.seg, .bool RQ.1.dbl] 120)).setCell ⟨w.heap.size + 1, 0, none⟩ (.int .i64 0)).setCell ⟨w.heap.size + 1, 1, none⟩ (.int .i64 0)).setCell ⟨w.heap.size + 1, 2, none⟩ (.int .i64 0)).setCell ⟨w.heap.size + 1, 3, none⟩ (.int .i64 0)).setCell ⟨w.heap.size + 1, 4, none⟩ (.int .i64 0)).setCell ⟨w.heap.size + 1, 5, none⟩ (.int .i64 0)).setCell ⟨w.heap.size + 1, 6, none⟩ (.int .i64 0)) = w9
   intro HSF HGF
   clear y0 y1 y2 y3 y4 y5 y6 yf
   obtain ⟨y0, y1, y2, y3, y4, y5, y6, yf⟩ := cells7 HSF.out
   refine bodyPost_ret (v := .tuple #[.agg #[.int .i64 0, .int .i64 0, .int .i64 0, .int .i64 0, .int .i64 0, .int .i64 0, .int .i64 0], .int .i64 RQ.2]) ?_ rfl ⟨by rw [E0.out]; rfl, HGF.out⟩
   rw [results_cell_tmp rfl]; go_simp
  have heb : (RQ.2 != 0) = false := by simp [he]
  replace E0 := LH (E0.out.trans (if_pos he))
  clear he
  go_wp2_with fail
  refine (show Calls Tryz.prog 224 #[.agg #[.int .i64 RQ.1.kind, .int .i64 RQ.1.off, .int .i64 RQ.1.data, .int .i64 RQ.1.ptrs, .int .i64 RQ.1.size, .int .i64 RQ.1.count, .int .i64 RQ.1.seg, .bool RQ.1.dbl]] _ (fun e w' => e = .returned (.bool (isNear RQ.1)) ∧ Grow _ w') from qnear_calls RQ.1 _).mono ?_
  rintro e w5 ⟨rfl, hg⟩
  replace HP8 := LH (Grow.heap hg HP8.out)
  replace HQ8 := LH (Grow.heap hg HQ8.out)
  replace HS := LH (Grow.heap hg HS.out)
  replace HZ := LH (Grow.heap hg HZ.out)
  replace HG := LH (HG.out.grow hg)
  replace H := LH (H.out.grow hg)
  clear hg q0 q1 q2 q3 q4 q5 q6 q7 qf heb
  rcases hnr : isNear RQ.1 with _ | _
  case false =>
   replace E0 := LH (E0.out.trans (if_neg (by rw [hnr]; simp)))
   clear hnr
   obtain ⟨hst, hgt⟩ := stored7 (.int .i64 0) (.int .i64 0) (.int .i64 0) (.int .i64 0) (.int .i64 0) (.int .i64 0) (.int .i64 0) HG.out (Nat.le_succ _) HZ.out
   obtain ⟨y0, y1, y2, y3, y4, y5, y6, yf⟩ := cells7 HZ.out
   have HSF := LH hst
   have HGF := LH hgt
   clear hst hgt
   go_wp2
   revert HSF HGF
   generalize (((((((w5.setCell ⟨w.heap.size + 1, 0, none⟩ (.int .i64 0)).setCell ⟨w.heap.size + 1, 1, none⟩ (.int .i64 0)).setCell ⟨w.heap.size + 1, 2, none⟩ (.int .i64 0)).setCell ⟨w.heap.size + 1, 3, none⟩ (.int .i64 0)).setCell ⟨w.heap.size + 1, 4, none⟩ (.int .i64 0)).setCell ⟨w.heap.size + 1, 5, none⟩ (.int .i64 0)).setCell ⟨w.heap.size + 1, 6, none⟩ (.int .i64 0)) = w9
   intro HSF HGF
   clear y0 y1 y2 y3 y4 y5 y6 yf
   obtain ⟨y0, y1, y2, y3, y4, y5, y6, yf⟩ := cells7 HSF.out
   refine bodyPost_ret (v := .tuple #[.agg #[.int .i64 0, .int .i64 0, .int .i64 0, .int .i64 0, .int .i64 0, .int .i64 0, .int .i64 0], .int .i64 23]) ?_ rfl ⟨by rw [E0.out]; rfl, HGF.out⟩
   rw [results_cell_tmp rfl]; go_simp
  replace E0 := LH (E0.out.trans (if_pos hnr))
  have hpq := HPQ.out.o
  have hwa : IntKind.i64.wrap (RP.1.off + 1) = RP.1.off + 1 := IntWalk.i64_in _ (by omega)
  have hwb : IntKind.i64.wrap (RP.1.off + 1 + RQ.1.off) = RP.1.off + 1 + RQ.1.off := IntWalk.i64_in _ (by omega)
  clear hnr
  replace HPO := HPQ
  obtain ⟨c0, c1, c2, c3, c4, c5, c6, c7, cf⟩ := cells8 HP8.out
  obtain ⟨q0, q1, q2, q3, q4, q5, q6, q7, qf⟩ := cells8 HQ8.out
  obtain ⟨m0, m1, m2, mf⟩ := cells3 HS.out
  obtain ⟨F, HFO⟩ : ∃ F, Hid (foundO (szs a) (obOf RQ.1 RP.1.seg (RP.1.off + 1 + RQ.1.off)) = F) := ⟨_, LH rfl⟩
  replace E0 := LH (E0.out.trans HFO.out)
  go_wp2
  refine region_cut NoB [0, 1, 2, 3, 4, 5, 6, 7, 8, 9] [] [0, 1, 3, 5, 8] [16] #[true, true, true, true, true, true, true, true, true, true, false, false, false, false, false, false, false, false] 8 rfl (by kernel_rfl) ?_
  refine ord_read rfl rfl rfl rfl rfl (fun _ _ _ _ h => h) ?_ ?_ ?_ ?_ ?_
  rotate_left 2
  ·intro w' hg; have q0 := hg.cell m0 (fun h => h); have q1 := hg.cell m1 (fun h => h); have q2 := hg.cell m2 (fun h => h); go_simp; with_reducible rfl
  ·simp only [Act.put, pB, pC, pD]; rfl
  refine ord_read rfl rfl rfl rfl rfl (fun _ _ _ _ h => h) ?_ ?_ ?_ ?_ ?_
  rotate_left 2
  ·intro w' hg; have p0 := hg.cell q0 (fun h => h); have p1 := hg.cell q1 (fun h => h); have p2 := hg.cell q2 (fun h => h); have p3 := hg.cell q3 (fun h => h); have p4 := hg.cell q4 (fun h => h); have p5 := hg.cell q5 (fun h => h); have p6 := hg.cell q6 (fun h => h); have p7 := hg.cell q7 (fun h => h); go_simp; with_reducible rfl
  ·simp only [Act.put, pB, pC, pD]; rfl
  refine ord_pure rfl rfl rfl rfl rfl (fun _ _ _ _ h => h) ?_ ?_ ?_ ?_ ?_
  rotate_left 2
  ·intro w'; go_simp; with_reducible rfl
  ·simp only [Act.put, pB, pC, pD]; rfl
  refine ord_read rfl rfl rfl rfl rfl (fun _ _ _ _ h => h) ?_ ?_ ?_ ?_ ?_
  rotate_left 2
  ·intro w' hg; have p := hg.cell c6 (fun h => h); go_simp; with_reducible rfl
  ·simp only [Act.put, pB, pC, pD]; rfl
  refine ord_pure rfl rfl rfl rfl rfl (fun _ _ _ _ h => h) ?_ ?_ ?_ ?_ ?_
  rotate_left 2
  ·intro w'; go_simp; with_reducible rfl
  ·simp only [Act.put, pB, pC, pD]; rfl
  refine ord_read rfl rfl rfl rfl rfl (fun _ _ _ _ h => h) ?_ ?_ ?_ ?_ ?_
  rotate_left 2
  ·intro w' hg; have p := hg.cell c1 (fun h => h); go_simp; with_reducible rfl
  ·simp only [Act.put, pB, pC, pD]; rfl
  iterate 2
   refine ord_pure rfl rfl rfl rfl rfl (fun _ _ _ _ h => h) ?_ ?_ ?_ ?_ ?_
   rotate_left 2
   ·intro w'; go_simp; with_reducible rfl
   ·simp only [Act.put, pB, pC, pD]; rfl
  refine ord_read rfl rfl rfl rfl rfl (fun _ _ _ _ h => h) ?_ ?_ ?_ ?_ ?_
  rotate_left 2
  ·intro w' hg; have p := hg.cell q1 (fun h => h); go_simp; with_reducible rfl
  ·simp only [Act.put, pB, pC, pD]; rfl
  refine ord_pure rfl rfl rfl rfl rfl (fun _ _ _ _ h => h) ?_ ?_ ?_ ?_ ?_
  rotate_left 2
  ·intro w'; go_simp; with_reducible rfl
  ·simp only [Act.put, pB, pC, pD]; rfl
  clear c0 c1 c2 c3 c4 c5 c6 c7 cf m0 m1 m2 mf q0 q1 q2 q3 q4 q5 q6 q7 qf
  refine ord_nil ?_
  have hgd := (Keep.refl NoB w5).drew
  replace HZ := LH (Grow.heap hgd HZ.out)
  replace HG := LH (HG.out.grow hgd)
  replace H := LH (H.out.grow hgd)
  clear hgd
  refine any_fork 10 15 #[true, true, true, true, true, true, true, true, true, true, true, false, false, false, false, false, false, false] #[true, true, true, true, true, true, true, true, true, true, false, false, false, false, false, true, false, false] (by kernel_rfl) ?_ ?_
  ·
   refine ord_call rfl rfl rfl rfl rfl Tryz.func226 rfl rfl [.agg #[.int .i64 RQ.1.kind, .int .i64 RQ.1.off, .int .i64 RQ.1.data, .int .i64 RQ.1.ptrs, .int .i64 RQ.1.size, .int .i64 RQ.1.count, .int .i64 RQ.1.seg, .bool RQ.1.dbl], .int .i64 RP.1.seg, .int .i64 (RP.1.off + 1 + RQ.1.off)] rfl ?_
   refine (show Calls Tryz.prog 226 #[.agg #[.int .i64 RQ.1.kind, .int .i64 RQ.1.off, .int .i64 RQ.1.data, .int .i64 RQ.1.ptrs, .int .i64 RQ.1.size, .int .i64 RQ.1.count, .int .i64 RQ.1.seg, .bool RQ.1.dbl], .int .i64 RP.1.seg, .int .i64 (RP.1.off + 1 + RQ.1.off)] _ (QObPost (obOf RQ.1 RP.1.seg (RP.1.off + 1 + RQ.1.off)) _) from qobj_calls RQ.1 RP.1.seg (RP.1.off + 1 + RQ.1.off) _).mono ?_
   rintro e wA ⟨rfl, hg⟩
   refine ⟨_, rfl, fun _ => hg, ?_⟩
   replace HZ := LH (Grow.heap hg HZ.out)
   replace HG := LH (HG.out.grow hg)
   replace H := LH (H.out.grow hg)
   have hgA := hg
   clear hg
   simp only [Act.put, pB, pC, pD]
   refine ord_nil ?_
   refine any_fork 11 15 #[true, true, true, true, true, true, true, true, true, true, true, true, false, false, false, false, false, false] #[true, true, true, true, true, true, true, true, true, true, true, false, false, false, false, true, false, false] (by kernel_rfl) ?_ ?_
   ·
    refine ord_call rfl rfl rfl rfl rfl Tryz.func225 rfl rfl [(.agg #[.slice A a.length c, .bool false, .slice none 0 0]), .agg #[.int .i64 (obOf RQ.1 RP.1.seg (RP.1.off + 1 + RQ.1.off)).kind, .int .i64 (obOf RQ.1 RP.1.seg (RP.1.off + 1 + RQ.1.off)).seg, .int .i64 (obOf RQ.1 RP.1.seg (RP.1.off + 1 + RQ.1.off)).at_, .int .i64 (obOf RQ.1 RP.1.seg (RP.1.off + 1 + RQ.1.off)).data, .int .i64 (obOf RQ.1 RP.1.seg (RP.1.off + 1 + RQ.1.off)).ptrs, .int .i64 (obOf RQ.1 RP.1.seg (RP.1.off + 1 + RQ.1.off)).size, .int .i64 (obOf RQ.1 RP.1.seg (RP.1.off + 1 + RQ.1.off)).count]] rfl ?_
    refine (show Calls Tryz.prog 225 #[(.agg #[.slice A a.length c, .bool false, .slice none 0 0]), .agg #[.int .i64 (obOf RQ.1 RP.1.seg (RP.1.off + 1 + RQ.1.off)).kind, .int .i64 (obOf RQ.1 RP.1.seg (RP.1.off + 1 + RQ.1.off)).seg, .int .i64 (obOf RQ.1 RP.1.seg (RP.1.off + 1 + RQ.1.off)).at_, .int .i64 (obOf RQ.1 RP.1.seg (RP.1.off + 1 + RQ.1.off)).data, .int .i64 (obOf RQ.1 RP.1.seg (RP.1.off + 1 + RQ.1.off)).ptrs, .int .i64 (obOf RQ.1 RP.1.seg (RP.1.off + 1 + RQ.1.off)).size, .int .i64 (obOf RQ.1 RP.1.seg (RP.1.off + 1 + RQ.1.off)).count]] _ (QFPost (foundO (szs a) (obOf RQ.1 RP.1.seg (RP.1.off + 1 + RQ.1.off))) _) from qbounds_calls a HA.out A c _ H.out (obOf RQ.1 RP.1.seg (RP.1.off + 1 + RQ.1.off)) (obOf_ok HPO.out RP.1.seg (RP.1.off + 1 + RQ.1.off))).mono ?_
    rintro e wB ⟨rfl, hg⟩
    refine ⟨_, rfl, fun _ => hg, ?_⟩
    rw [HFO.out]
    replace HZ := LH (Grow.heap hg HZ.out)
    replace HG := LH (HG.out.grow hg)
    replace H := LH (H.out.grow hg)
    have hgB := hg
    clear hg
    simp only [Act.put, pB, pC, pD]
    refine ord_nil ?_
    refine any_cut (n := 3) [12, 13, 14] [] [] #[true, true, true, true, true, true, true, true, true, true, true, true, true, true, true, false, false, false] (by kernel_rfl) ?_
    iterate 3
     refine ord_pure rfl rfl rfl rfl rfl (fun _ _ _ _ h => h) ?_ ?_ ?_ ?_ ?_
     rotate_left 2
     ·intro w'; go_simp; with_reducible rfl
     ·simp only [Act.put, pB, pC, pD]; rfl
    refine ord_nil ?_
    refine any_ord [15, 16, 17] [15, 16, 17] [] (by kernel_rfl) ?_
    refine ord_new rfl rfl rfl rfl ?_ ?_ ?_ ?_ ?_ ?_
    rotate_left 3
    ·go_simp; first | with_reducible rfl | (constructor <;> with_reducible rfl)
    ·simp only [Act.put, pB, pC, pD]; rfl
    have hzn := heap_alloc_new wB (.cells #[.int .i64 0, .int .i64 0, .int .i64 0, .int .i64 0, .int .i64 0, .int .i64 0, .int .i64 0] 257)
    have hgn := (Keep.refl NoB wB).alloc (.cells #[.int .i64 0, .int .i64 0, .int .i64 0, .int .i64 0, .int .i64 0, .int .i64 0, .int .i64 0] 257)
    have hbn : w.heap.size + 1 < wB.heap.size := by have := (gE HZ.out).1; exact this
    obtain ⟨T, hT⟩ : ∃ T, wB.heap.size = T := ⟨_, rfl⟩
    generalize wB.alloc (.cells #[.int .i64 0, .int .i64 0, .int .i64 0, .int .i64 0, .int .i64 0, .int .i64 0, .int .i64 0] 257) = wN at hzn hgn ⊢
    skip
    rw [hT] at hzn hbn ⊢
    clear hT
    have HT := LH hzn
    have HB := LH hbn
    replace HZ := LH (Grow.heap hgn HZ.out)
    replace HG := LH (HG.out.grow hgn)
    replace H := LH (H.out.grow hgn)
    clear hzn hgn hbn
    have hzt := HT.out
    obtain ⟨t0, t1, t2, t3, t4, t5, t6, tf⟩ := cells7 hzt
    have hbt := HB.out
    obtain ⟨hst, hgt⟩ := stored7 (.int .i64 F.1.kind) (.int .i64 F.1.seg) (.int .i64 F.1.at_) (.int .i64 F.1.data) (.int .i64 F.1.ptrs) (.int .i64 F.1.size) (.int .i64 F.1.count) HG.out (by omega) hzt
    have hkt : Keep (fun j => j = T) wN (((((((wN.setCell ⟨T, 0, none⟩ (.int .i64 F.1.kind)).setCell ⟨T, 1, none⟩ (.int .i64 F.1.seg)).setCell ⟨T, 2, none⟩ (.int .i64 F.1.at_)).setCell ⟨T, 3, none⟩ (.int .i64 F.1.data)).setCell ⟨T, 4, none⟩ (.int .i64 F.1.ptrs)).setCell ⟨T, 5, none⟩ (.int .i64 F.1.size)).setCell ⟨T, 6, none⟩ (.int .i64 F.1.count)) := keepN7 _ _ _ _ _ _ _
    have hzr := (hkt.block (w.heap.size + 1) (gE HZ.out).1 (by omega)).trans HZ.out
    have HST := LH hst
    have HGT := LH hgt
    have HZT := LH hzr
    clear hst hgt hkt hzr hzt
    refine ord_put rfl rfl rfl rfl ?_ ?_ (fun h => absurd (by simp) h) ?_
    rotate_left
    ·go_simp; with_reducible rfl
    clear t0 t1 t2 t3 t4 t5 t6 tf
    revert HST HGT HZT
    generalize (((((((wN.setCell ⟨T, 0, none⟩ (.int .i64 F.1.kind)).setCell ⟨T, 1, none⟩ (.int .i64 F.1.seg)).setCell ⟨T, 2, none⟩ (.int .i64 F.1.at_)).setCell ⟨T, 3, none⟩ (.int .i64 F.1.data)).setCell ⟨T, 4, none⟩ (.int .i64 F.1.ptrs)).setCell ⟨T, 5, none⟩ (.int .i64 F.1.size)).setCell ⟨T, 6, none⟩ (.int .i64 F.1.count)) = wT
    intro HST HGT HZT
    refine ord_set rfl rfl rfl rfl ?_ ?_ ?_ ?_ ?_
    rotate_left 2
    ·go_simp; with_reducible rfl
    ·simp only [Act.put, pB, pC, pD]; rfl
    refine ord_nil ?_
    obtain ⟨t0, t1, t2, t3, t4, t5, t6, tf⟩ := cells7 HST.out
    have hneT : w.heap.size + 1 ≠ T := by have := HB.out; omega
    have hneT2 : T ≠ w.heap.size + 1 := fun e => hneT e.symm
    obtain ⟨hst, hgt⟩ := stored7 (.int .i64 F.1.kind) (.int .i64 F.1.seg) (.int .i64 F.1.at_) (.int .i64 F.1.data) (.int .i64 F.1.ptrs) (.int .i64 F.1.size) (.int .i64 F.1.count) HGT.out (Nat.le_succ _) HZT.out
    obtain ⟨y0, y1, y2, y3, y4, y5, y6, yf⟩ := cells7 HZT.out
    have HSF := LH hst
    have HGF := LH hgt
    clear hst hgt
    go_wp2
    revert HSF HGF
    generalize (((((((wT.setCell ⟨w.heap.size + 1, 0, none⟩ (.int .i64 F.1.kind)).setCell ⟨w.heap.size + 1, 1, none⟩ (.int .i64 F.1.seg)).setCell ⟨w.heap.size + 1, 2, none⟩ (.int .i64 F.1.at_)).setCell ⟨w.heap.size + 1, 3, none⟩ (.int .i64 F.1.data)).setCell ⟨w.heap.size + 1, 4, none⟩ (.int .i64 F.1.ptrs)).setCell ⟨w.heap.size + 1, 5, none⟩ (.int .i64 F.1.size)).setCell ⟨w.heap.size + 1, 6, none⟩ (.int .i64 F.1.count)) = w9
    intro HSF HGF
    clear y0 y1 y2 y3 y4 y5 y6 yf
    obtain ⟨y0, y1, y2, y3, y4, y5, y6, yf⟩ := cells7 HSF.out
    refine bodyPost_ret (v := .tuple #[.agg #[.int .i64 F.1.kind, .int .i64 F.1.seg, .int .i64 F.1.at_, .int .i64 F.1.data, .int .i64 F.1.ptrs, .int .i64 F.1.size, .int .i64 F.1.count], .int .i64 F.2]) ?_ rfl ⟨by rw [E0.out], HGF.out⟩
    rw [results_cell_tmp rfl]; go_simp
   ·
    refine ord_new rfl rfl rfl rfl ?_ ?_ ?_ ?_ ?_ ?_
    rotate_left 3
    ·go_simp; first | with_reducible rfl | (constructor <;> with_reducible rfl)
    ·simp only [Act.put, pB, pC, pD]; rfl
    have hzn := heap_alloc_new wA (.cells #[.int .i64 0, .int .i64 0, .int .i64 0, .int .i64 0, .int .i64 0, .int .i64 0, .int .i64 0] 257)
    have hgn := (Keep.refl NoB wA).alloc (.cells #[.int .i64 0, .int .i64 0, .int .i64 0, .int .i64 0, .int .i64 0, .int .i64 0, .int .i64 0] 257)
    have hbn : w.heap.size + 1 < wA.heap.size := by have := (gE HZ.out).1; exact this
    obtain ⟨T, hT⟩ : ∃ T, wA.heap.size = T := ⟨_, rfl⟩
    generalize wA.alloc (.cells #[.int .i64 0, .int .i64 0, .int .i64 0, .int .i64 0, .int .i64 0, .int .i64 0, .int .i64 0] 257) = wN at hzn hgn ⊢
    skip
    rw [hT] at hzn hbn ⊢
    clear hT
    have HT := LH hzn
    have HB := LH hbn
    replace HZ := LH (Grow.heap hgn HZ.out)
    replace HG := LH (HG.out.grow hgn)
    replace H := LH (H.out.grow hgn)
    clear hzn hgn hbn
    refine ord_nil ?_
    refine any_ord [11, 12, 13, 14, 16, 17] [11, 16, 17] [] (by kernel_rfl) ?_
    refine ord_call rfl rfl rfl rfl rfl Tryz.func225 rfl rfl [(.agg #[.slice A a.length c, .bool false, .slice none 0 0]), .agg #[.int .i64 (obOf RQ.1 RP.1.seg (RP.1.off + 1 + RQ.1.off)).kind, .int .i64 (obOf RQ.1 RP.1.seg (RP.1.off + 1 + RQ.1.off)).seg, .int .i64 (obOf RQ.1 RP.1.seg (RP.1.off + 1 + RQ.1.off)).at_, .int .i64 (obOf RQ.1 RP.1.seg (RP.1.off + 1 + RQ.1.off)).data, .int .i64 (obOf RQ.1 RP.1.seg (RP.1.off + 1 + RQ.1.off)).ptrs, .int .i64 (obOf RQ.1 RP.1.seg (RP.1.off + 1 + RQ.1.off)).size, .int .i64 (obOf RQ.1 RP.1.seg (RP.1.off + 1 + RQ.1.off)).count]] rfl ?_
    refine (show Calls Tryz.prog 225 #[(.agg #[.slice A a.length c, .bool false, .slice none 0 0]), .agg #[.int .i64 (obOf RQ.1 RP.1.seg (RP.1.off + 1 + RQ.1.off)).kind, .int .i64 (obOf RQ.1 RP.1.seg (RP.1.off + 1 + RQ.1.off)).seg, .int .i64 (obOf RQ.1 RP.1.seg (RP.1.off + 1 + RQ.1.off)).at_, .int .i64 (obOf RQ.1 RP.1.seg (RP.1.off + 1 + RQ.1.off)).data, .int .i64 (obOf RQ.1 RP.1.seg (RP.1.off + 1 + RQ.1.off)).ptrs, .int .i64 (obOf RQ.1 RP.1.seg (RP.1.off + 1 + RQ.1.off)).size, .int .i64 (obOf RQ.1 RP.1.seg (RP.1.off + 1 + RQ.1.off)).count]] _ (QFPost (foundO (szs a) (obOf RQ.1 RP.1.seg (RP.1.off + 1 + RQ.1.off))) _) from qbounds_calls a HA.out A c _ H.out (obOf RQ.1 RP.1.seg (RP.1.off + 1 + RQ.1.off)) (obOf_ok HPO.out RP.1.seg (RP.1.off + 1 + RQ.1.off))).mono ?_
    rintro e wB ⟨rfl, hg⟩
    refine ⟨_, rfl, fun _ => hg, ?_⟩
    rw [HFO.out]
    replace HZ := LH (Grow.heap hg HZ.out)
    replace HG := LH (HG.out.grow hg)
    replace H := LH (H.out.grow hg)
    have hgB := hg
    clear hg
    simp only [Act.put, pB, pC, pD]
    replace HT := LH (Grow.heap hgB HT.out)
    iterate 3
     refine ord_pure rfl rfl rfl rfl rfl (fun _ _ _ _ h => h) ?_ ?_ ?_ ?_ ?_
     rotate_left 2
     ·intro w'; go_simp; with_reducible rfl
     ·simp only [Act.put, pB, pC, pD]; rfl
    have hzt := HT.out
    obtain ⟨t0, t1, t2, t3, t4, t5, t6, tf⟩ := cells7 hzt
    have hbt := HB.out
    obtain ⟨hst, hgt⟩ := stored7 (.int .i64 F.1.kind) (.int .i64 F.1.seg) (.int .i64 F.1.at_) (.int .i64 F.1.data) (.int .i64 F.1.ptrs) (.int .i64 F.1.size) (.int .i64 F.1.count) HG.out (by omega) hzt
    have hkt : Keep (fun j => j = T) wB (((((((wB.setCell ⟨T, 0, none⟩ (.int .i64 F.1.kind)).setCell ⟨T, 1, none⟩ (.int .i64 F.1.seg)).setCell ⟨T, 2, none⟩ (.int .i64 F.1.at_)).setCell ⟨T, 3, none⟩ (.int .i64 F.1.data)).setCell ⟨T, 4, none⟩ (.int .i64 F.1.ptrs)).setCell ⟨T, 5, none⟩ (.int .i64 F.1.size)).setCell ⟨T, 6, none⟩ (.int .i64 F.1.count)) := keepN7 _ _ _ _ _ _ _
    have hzr := (hkt.block (w.heap.size + 1) (gE HZ.out).1 (by omega)).trans HZ.out
    have HST := LH hst
    have HGT := LH hgt
    have HZT := LH hzr
    clear hst hgt hkt hzr hzt
    refine ord_put rfl rfl rfl rfl ?_ ?_ (fun h => absurd (by simp) h) ?_
    rotate_left
    ·go_simp; with_reducible rfl
    clear t0 t1 t2 t3 t4 t5 t6 tf
    revert HST HGT HZT
    generalize (((((((wB.setCell ⟨T, 0, none⟩ (.int .i64 F.1.kind)).setCell ⟨T, 1, none⟩ (.int .i64 F.1.seg)).setCell ⟨T, 2, none⟩ (.int .i64 F.1.at_)).setCell ⟨T, 3, none⟩ (.int .i64 F.1.data)).setCell ⟨T, 4, none⟩ (.int .i64 F.1.ptrs)).setCell ⟨T, 5, none⟩ (.int .i64 F.1.size)).setCell ⟨T, 6, none⟩ (.int .i64 F.1.count)) = wT
    intro HST HGT HZT
    refine ord_set rfl rfl rfl rfl ?_ ?_ ?_ ?_ ?_
    rotate_left 2
    ·go_simp; with_reducible rfl
    ·simp only [Act.put, pB, pC, pD]; rfl
    refine ord_nil ?_
    obtain ⟨t0, t1, t2, t3, t4, t5, t6, tf⟩ := cells7 HST.out
    have hneT : w.heap.size + 1 ≠ T := by have := HB.out; omega
    have hneT2 : T ≠ w.heap.size + 1 := fun e => hneT e.symm
    obtain ⟨hst, hgt⟩ := stored7 (.int .i64 F.1.kind) (.int .i64 F.1.seg) (.int .i64 F.1.at_) (.int .i64 F.1.data) (.int .i64 F.1.ptrs) (.int .i64 F.1.size) (.int .i64 F.1.count) HGT.out (Nat.le_succ _) HZT.out
    obtain ⟨y0, y1, y2, y3, y4, y5, y6, yf⟩ := cells7 HZT.out
    have HSF := LH hst
    have HGF := LH hgt
    clear hst hgt
    go_wp2
    revert HSF HGF
    generalize (((((((wT.setCell ⟨w.heap.size + 1, 0, none⟩ (.int .i64 F.1.kind)).setCell ⟨w.heap.size + 1, 1, none⟩ (.int .i64 F.1.seg)).setCell ⟨w.heap.size + 1, 2, none⟩ (.int .i64 F.1.at_)).setCell ⟨w.heap.size + 1, 3, none⟩ (.int .i64 F.1.data)).setCell ⟨w.heap.size + 1, 4, none⟩ (.int .i64 F.1.ptrs)).setCell ⟨w.heap.size + 1, 5, none⟩ (.int .i64 F.1.size)).setCell ⟨w.heap.size + 1, 6, none⟩ (.int .i64 F.1.count)) = w9
    intro HSF HGF
    clear y0 y1 y2 y3 y4 y5 y6 yf
    obtain ⟨y0, y1, y2, y3, y4, y5, y6, yf⟩ := cells7 HSF.out
    refine bodyPost_ret (v := .tuple #[.agg #[.int .i64 F.1.kind, .int .i64 F.1.seg, .int .i64 F.1.at_, .int .i64 F.1.data, .int .i64 F.1.ptrs, .int .i64 F.1.size, .int .i64 F.1.count], .int .i64 F.2]) ?_ rfl ⟨by rw [E0.out], HGF.out⟩
    rw [results_cell_tmp rfl]; go_simp
  ·
   refine ord_new rfl rfl rfl rfl ?_ ?_ ?_ ?_ ?_ ?_
   rotate_left 3
   ·go_simp; first | with_reducible rfl | (constructor <;> with_reducible rfl)
   ·simp only [Act.put, pB, pC, pD]; rfl
   have hzn := heap_alloc_new w5.drew (.cells #[.int .i64 0, .int .i64 0, .int .i64 0, .int .i64 0, .int .i64 0, .int .i64 0, .int .i64 0] 257)
   have hgn := (Keep.refl NoB w5.drew).alloc (.cells #[.int .i64 0, .int .i64 0, .int .i64 0, .int .i64 0, .int .i64 0, .int .i64 0, .int .i64 0] 257)
   have hbn : w.heap.size + 1 < w5.drew.heap.size := by have := (gE HZ.out).1; exact this
   obtain ⟨T, hT⟩ : ∃ T, w5.heap.size = T := ⟨_, rfl⟩
   generalize w5.drew.alloc (.cells #[.int .i64 0, .int .i64 0, .int .i64 0, .int .i64 0, .int .i64 0, .int .i64 0, .int .i64 0] 257) = wN at hzn hgn ⊢
   rw [show w5.drew.heap.size = w5.heap.size from rfl] at hzn hbn
   rw [hT] at hzn hbn ⊢
   clear hT
   have HT := LH hzn
   have HB := LH hbn
   replace HZ := LH (Grow.heap hgn HZ.out)
   replace HG := LH (HG.out.grow hgn)
   replace H := LH (H.out.grow hgn)
   clear hzn hgn hbn
   refine ord_nil ?_
   refine any_ord [10, 11, 12, 13, 14, 16, 17] [10, 11, 16, 17] [] (by kernel_rfl) ?_
   refine ord_call rfl rfl rfl rfl rfl Tryz.func226 rfl rfl [.agg #[.int .i64 RQ.1.kind, .int .i64 RQ.1.off, .int .i64 RQ.1.data, .int .i64 RQ.1.ptrs, .int .i64 RQ.1.size, .int .i64 RQ.1.count, .int .i64 RQ.1.seg, .bool RQ.1.dbl], .int .i64 RP.1.seg, .int .i64 (RP.1.off + 1 + RQ.1.off)] rfl ?_
   refine (show Calls Tryz.prog 226 #[.agg #[.int .i64 RQ.1.kind, .int .i64 RQ.1.off, .int .i64 RQ.1.data, .int .i64 RQ.1.ptrs, .int .i64 RQ.1.size, .int .i64 RQ.1.count, .int .i64 RQ.1.seg, .bool RQ.1.dbl], .int .i64 RP.1.seg, .int .i64 (RP.1.off + 1 + RQ.1.off)] _ (QObPost (obOf RQ.1 RP.1.seg (RP.1.off + 1 + RQ.1.off)) _) from qobj_calls RQ.1 RP.1.seg (RP.1.off + 1 + RQ.1.off) _).mono ?_
   rintro e wA ⟨rfl, hg⟩
   refine ⟨_, rfl, fun _ => hg, ?_⟩
   replace HZ := LH (Grow.heap hg HZ.out)
   replace HG := LH (HG.out.grow hg)
   replace H := LH (H.out.grow hg)
   have hgA := hg
   clear hg
   simp only [Act.put, pB, pC, pD]
   replace HT := LH (Grow.heap hgA HT.out)
   refine ord_call rfl rfl rfl rfl rfl Tryz.func225 rfl rfl [(.agg #[.slice A a.length c, .bool false, .slice none 0 0]), .agg #[.int .i64 (obOf RQ.1 RP.1.seg (RP.1.off + 1 + RQ.1.off)).kind, .int .i64 (obOf RQ.1 RP.1.seg (RP.1.off + 1 + RQ.1.off)).seg, .int .i64 (obOf RQ.1 RP.1.seg (RP.1.off + 1 + RQ.1.off)).at_, .int .i64 (obOf RQ.1 RP.1.seg (RP.1.off + 1 + RQ.1.off)).data, .int .i64 (obOf RQ.1 RP.1.seg (RP.1.off + 1 + RQ.1.off)).ptrs, .int .i64 (obOf RQ.1 RP.1.seg (RP.1.off + 1 + RQ.1.off)).size, .int .i64 (obOf RQ.1 RP.1.seg (RP.1.off + 1 + RQ.1.off)).count]] rfl ?_
   refine (show Calls Tryz.prog 225 #[(.agg #[.slice A a.length c, .bool false, .slice none 0 0]), .agg #[.int .i64 (obOf RQ.1 RP.1.seg (RP.1.off + 1 + RQ.1.off)).kind, .int .i64 (obOf RQ.1 RP.1.seg (RP.1.off + 1 + RQ.1.off)).seg, .int .i64 (obOf RQ.1 RP.1.seg (RP.1.off + 1 + RQ.1.off)).at_, .int .i64 (obOf RQ.1 RP.1.seg (RP.1.off + 1 + RQ.1.off)).data, .int .i64 (obOf RQ.1 RP.1.seg (RP.1.off + 1 + RQ.1.off)).ptrs, .int .i64 (obOf RQ.1 RP.1.seg (RP.1.off + 1 + RQ.1.off)).size, .int .i64 (obOf RQ.1 RP.1.seg (RP.1.off + 1 + RQ.1.off)).count]] _ (QFPost (foundO (szs a) (obOf RQ.1 RP.1.seg (RP.1.off + 1 + RQ.1.off))) _) from qbounds_calls a HA.out A c _ H.out (obOf RQ.1 RP.1.seg (RP.1.off + 1 + RQ.1.off)) (obOf_ok HPO.out RP.1.seg (RP.1.off + 1 + RQ.1.off))).mono ?_
   rintro e wB ⟨rfl, hg⟩
   refine ⟨_, rfl, fun _ => hg, ?_⟩
   rw [HFO.out]
   replace HZ := LH (Grow.heap hg HZ.out)
   replace HG := LH (HG.out.grow hg)
   replace H := LH (H.out.grow hg)
   have hgB := hg
   clear hg
   simp only [Act.put, pB, pC, pD]
   replace HT := LH (Grow.heap hgB HT.out)
   iterate 3
    refine ord_pure rfl rfl rfl rfl rfl (fun _ _ _ _ h => h) ?_ ?_ ?_ ?_ ?_
    rotate_left 2
    ·intro w'; go_simp; with_reducible rfl
    ·simp only [Act.put, pB, pC, pD]; rfl
   have hzt := HT.out
   obtain ⟨t0, t1, t2, t3, t4, t5, t6, tf⟩ := cells7 hzt
   have hbt := HB.out
   obtain ⟨hst, hgt⟩ := stored7 (.int .i64 F.1.kind) (.int .i64 F.1.seg) (.int .i64 F.1.at_) (.int .i64 F.1.data) (.int .i64 F.1.ptrs) (.int .i64 F.1.size) (.int .i64 F.1.count) HG.out (by omega) hzt
   have hkt : Keep (fun j => j = T) wB (((((((wB.setCell ⟨T, 0, none⟩ (.int .i64 F.1.kind)).setCell ⟨T, 1, none⟩ (.int .i64 F.1.seg)).setCell ⟨T, 2, none⟩ (.int .i64 F.1.at_)).setCell ⟨T, 3, none⟩ (.int .i64 F.1.data)).setCell ⟨T, 4, none⟩ (.int .i64 F.1.ptrs)).setCell ⟨T, 5, none⟩ (.int .i64 F.1.size)).setCell ⟨T, 6, none⟩ (.int .i64 F.1.count)) := keepN7 _ _ _ _ _ _ _
   have hzr := (hkt.block (w.heap.size + 1) (gE HZ.out).1 (by omega)).trans HZ.out
   have HST := LH hst
   have HGT := LH hgt
   have HZT := LH hzr
   clear hst hgt hkt hzr hzt
   refine ord_put rfl rfl rfl rfl ?_ ?_ (fun h => absurd (by simp) h) ?_
   rotate_left
   ·go_simp; with_reducible rfl
   clear t0 t1 t2 t3 t4 t5 t6 tf
   revert HST HGT HZT
   generalize (((((((wB.setCell ⟨T, 0, none⟩ (.int .i64 F.1.kind)).setCell ⟨T, 1, none⟩ (.int .i64 F.1.seg)).setCell ⟨T, 2, none⟩ (.int .i64 F.1.at_)).setCell ⟨T, 3, none⟩ (.int .i64 F.1.data)).setCell ⟨T, 4, none⟩ (.int .i64 F.1.ptrs)).setCell ⟨T, 5, none⟩ (.int .i64 F.1.size)).setCell ⟨T, 6, none⟩ (.int .i64 F.1.count)) = wT
   intro HST HGT HZT
   refine ord_set rfl rfl rfl rfl ?_ ?_ ?_ ?_ ?_
   rotate_left 2
   ·go_simp; with_reducible rfl
   ·simp only [Act.put, pB, pC, pD]; rfl
   refine ord_nil ?_
   obtain ⟨t0, t1, t2, t3, t4, t5, t6, tf⟩ := cells7 HST.out
   have hneT : w.heap.size + 1 ≠ T := by have := HB.out; omega
   have hneT2 : T ≠ w.heap.size + 1 := fun e => hneT e.symm
   obtain ⟨hst, hgt⟩ := stored7 (.int .i64 F.1.kind) (.int .i64 F.1.seg) (.int .i64 F.1.at_) (.int .i64 F.1.data) (.int .i64 F.1.ptrs) (.int .i64 F.1.size) (.int .i64 F.1.count) HGT.out (Nat.le_succ _) HZT.out
   obtain ⟨y0, y1, y2, y3, y4, y5, y6, yf⟩ := cells7 HZT.out
   have HSF := LH hst
   have HGF := LH hgt
   clear hst hgt
   go_wp2
   revert HSF HGF
   generalize (((((((wT.setCell ⟨w.heap.size + 1, 0, none⟩ (.int .i64 F.1.kind)).setCell ⟨w.heap.size + 1, 1, none⟩ (.int .i64 F.1.seg)).setCell ⟨w.heap.size + 1, 2, none⟩ (.int .i64 F.1.at_)).setCell ⟨w.heap.size + 1, 3, none⟩ (.int .i64 F.1.data)).setCell ⟨w.heap.size + 1, 4, none⟩ (.int .i64 F.1.ptrs)).setCell ⟨w.heap.size + 1, 5, none⟩ (.int .i64 F.1.size)).setCell ⟨w.heap.size + 1, 6, none⟩ (.int .i64 F.1.count)) = w9
   intro HSF HGF
   clear y0 y1 y2 y3 y4 y5 y6 yf
   obtain ⟨y0, y1, y2, y3, y4, y5, y6, yf⟩ := cells7 HSF.out
   refine bodyPost_ret (v := .tuple #[.agg #[.int .i64 F.1.kind, .int .i64 F.1.seg, .int .i64 F.1.at_, .int .i64 F.1.data, .int .i64 F.1.ptrs, .int .i64 F.1.size, .int .i64 F.1.count], .int .i64 F.2]) ?_ rfl ⟨by rw [E0.out], HGF.out⟩
   rw [results_cell_tmp rfl]; go_simp
end Go.Proofs.YtfkcpaahdlkcdaaGreat
