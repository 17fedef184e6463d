import Derived.Test.YtfkcpaahdlkcdaaGreatM03
/-! Joined: SdJ, SdK, SdL, SdM. -/
set_option linter.unusedSimpArgs false
set_option linter.unusedVariables false
namespace Go.Proofs.YtfkcpaahdlkcdaaGreat
open Go.RowKit

set_option maxRecDepth 100000 in
set_option maxHeartbeats 4000000 in
theorem twice_calls {sv : Value} {sz : List Int} {wd : Int → Int → Int × Int} {w : World} (h : Sou sv sz wd w) (ho : SouOk sz wd) (p : Pt) (hp : PtOk p) : Calls Tryz.prog 262 #[sv, .agg #[.int .i64 p.kind, .int .i64 p.off, .int .i64 p.data, .int .i64 p.ptrs, .int .i64 p.size, .int .i64 p.count, .int .i64 p.seg, .bool p.dbl]] w (ObPost (twiceP sz wd p) w) := by
  obtain ⟨T, pv, fw, fs, r, rfl, h2, h3, k1, k2, h4, h5⟩ := h.out
  obtain ⟨hP, hB0, hG⟩ := heap_two w (.cells #[.int .i64 p.kind, .int .i64 p.off, .int .i64 p.data, .int .i64 p.ptrs, .int .i64 p.size, .int .i64 p.count, .int .i64 p.seg, .bool p.dbl] 120) (.cells #[.int .i64 0, .int .i64 0, .int .i64 0, .int .i64 0, .int .i64 0, .int .i64 0, .int .i64 0] 257)
  have HB0 := Lib.hid hB0
  have HP := Lib.hid hP
  have HG := Lib.hid hG
  have H4 := Lib.hid h4
  have HS := Lib.hid (h.grow HG.out)
  have HSO := Lib.hid ho
  have HV1 := Lib.hid (ho.val p.seg p.off)
  have HV2 := Lib.hid (ho.val p.seg (p.off + 1))
  have E0 : Hid (twiceP sz wd p = (  if (wd p.seg p.off).2 = 0 then     if (wd p.seg (p.off + 1)).2 = 0 then       if (ptrDec (wd p.seg p.off).1).2 = 0 then         if (ptrDec (wd p.seg (p.off + 1)).1).2 = 0 then           if (ptrDec (wd p.seg p.off).1).1.kind = 3 ∧ (ptrDec (wd p.seg p.off).1).1.dbl = false ∧ isNear (ptrDec (wd p.seg (p.off + 1)).1).1 = true ∧ (ptrDec (wd p.seg (p.off + 1)).1).1.off = 0 then             foundP sz (ptrDec (wd p.seg (p.off + 1)).1).1 (ptrDec (wd p.seg p.off).1).1.seg (ptrDec (wd p.seg p.off).1).1.off           else (ob0, 23)         else (ob0, (ptrDec (wd p.seg (p.off + 1)).1).2)       else (ob0, (ptrDec (wd p.seg p.off).1).2)     else (ob0, (wd p.seg (p.off + 1)).2)   else (ob0, (wd p.seg p.off).2) )) := Lib.hid rfl
  obtain ⟨a0, a1, a2, a3, a4, a5, a6, a7, af⟩ := cells8 hP
  have po1 := hp.o.1
  have po2 := hp.o.2
  clear h ho hP hB0 hG hp h3 h4 h5 k2
  go_enter Tryz.func262, Tryz.ntmps262
  go_wp2_with fail
  refine (H4.out _ HG.out p.seg p.off).mono ?_
  rintro e w1 ⟨rfl, hg⟩
  replace HB0 := Lib.hid (hg.heap HB0.out)
  replace HP := Lib.hid (hg.heap HP.out)
  replace HG := Lib.hid (HG.out.grow hg)
  replace HS := Lib.hid (HS.out.grow hg)
  clear hg
  clear a0 a1 a2 a3 a4 a5 a6 a7 af
  generalize wd p.seg p.off = x1 at *
  obtain ⟨x1, y1⟩ := x1
  by_cases he : y1 = 0
  case neg =>
    have eb : (y1 != 0) = true := by simp [he]
    have E : Hid (twiceP sz wd p = (ob0, y1)) := Lib.hid (by rw [E0.out]; simp [he])
    clear he
    obtain ⟨b0, b1, b2, b3, b4, b5, b6, bf⟩ := cells7 HB0.out
    have hst := Lib.hid (stored7 (.int .i64 0) (.int .i64 0) (.int .i64 0) (.int .i64 0) (.int .i64 0) (.int .i64 0) (.int .i64 0) HG.out (by omega) HB0.out)
    go_wp2
    (try simp only [Exit.inBlock, Exit.then])
    obtain ⟨r0, r1, r2, r3, r4, r5, r6, rf⟩ := cells7 hst.out.1
    refine bodyPost_ret (v := .tuple #[.agg #[.int .i64 0, .int .i64 0, .int .i64 0, .int .i64 0, .int .i64 0, .int .i64 0, .int .i64 0], .int .u16 y1]) ?_ rfl ⟨?_, hst.out.2⟩
    · rw [results_cell_tmp rfl]; go_simp
    · rw [E.out] <;> rfl
  subst he
  obtain ⟨a0, a1, a2, a3, a4, a5, a6, a7, af⟩ := cells8 HP.out
  go_wp2_with fail
  refine (H4.out _ HG.out p.seg (p.off + 1)).mono ?_
  rintro e w2 ⟨rfl, hg⟩
  replace HB0 := Lib.hid (hg.heap HB0.out)
  replace HP := Lib.hid (hg.heap HP.out)
  replace HG := Lib.hid (HG.out.grow hg)
  replace HS := Lib.hid (HS.out.grow hg)
  clear hg
  clear a0 a1 a2 a3 a4 a5 a6 a7 af
  generalize wd p.seg (p.off + 1) = x2 at *
  obtain ⟨x2, y2⟩ := x2
  by_cases he : y2 = 0
  case neg =>
    have eb : (y2 != 0) = true := by simp [he]
    have E : Hid (twiceP sz wd p = (ob0, y2)) := Lib.hid (by rw [E0.out]; simp [he])
    clear he
    obtain ⟨b0, b1, b2, b3, b4, b5, b6, bf⟩ := cells7 HB0.out
    have hst := Lib.hid (stored7 (.int .i64 0) (.int .i64 0) (.int .i64 0) (.int .i64 0) (.int .i64 0) (.int .i64 0) (.int .i64 0) HG.out (by omega) HB0.out)
    go_wp2
    (try simp only [Exit.inBlock, Exit.then])
    obtain ⟨r0, r1, r2, r3, r4, r5, r6, rf⟩ := cells7 hst.out.1
    refine bodyPost_ret (v := .tuple #[.agg #[.int .i64 0, .int .i64 0, .int .i64 0, .int .i64 0, .int .i64 0, .int .i64 0, .int .i64 0], .int .u16 y2]) ?_ rfl ⟨?_, hst.out.2⟩
    · rw [results_cell_tmp rfl]; go_simp
    · rw [E.out] <;> rfl
  subst he
  go_wp2_with fail
  refine (pdec_calls x1 _ HV1.out.1 HV1.out.2).mono ?_
  rintro e w3 ⟨rfl, hg⟩
  replace HB0 := Lib.hid (hg.heap HB0.out)
  replace HP := Lib.hid (hg.heap HP.out)
  replace HG := Lib.hid (HG.out.grow hg)
  replace HS := Lib.hid (HS.out.grow hg)
  clear hg
  have HQ1 := Lib.hid (ptrDec_ok x1 HV1.out.1)
  generalize (ptrDec x1).1 = q at *
  generalize (ptrDec x1).2 = y3 at *
  have hgq := (Keep.refl NoB w3).alloc (.cells #[.int .i64 q.kind, .int .i64 q.off, .int .i64 q.data, .int .i64 q.ptrs, .int .i64 q.size, .int .i64 q.count, .int .i64 q.seg, .bool q.dbl] 120)
  have hQq := heap_alloc_new w3 (.cells #[.int .i64 q.kind, .int .i64 q.off, .int .i64 q.data, .int .i64 q.ptrs, .int .i64 q.size, .int .i64 q.count, .int .i64 q.seg, .bool q.dbl] 120)
  replace HB0 := Lib.hid (Grow.heap hgq HB0.out)
  replace HP := Lib.hid (Grow.heap hgq HP.out)
  replace HG := Lib.hid (HG.out.grow hgq)
  replace HS := Lib.hid (HS.out.grow hgq)
  have HQC := Lib.hid hQq
  clear hgq hQq
  by_cases he : y3 = 0
  case neg =>
    have eb : (y3 != 0) = true := by simp [he]
    have E : Hid (twiceP sz wd p = (ob0, y3)) := Lib.hid (by rw [E0.out]; simp [he])
    clear he
    obtain ⟨b0, b1, b2, b3, b4, b5, b6, bf⟩ := cells7 HB0.out
    have hst := Lib.hid (stored7 (.int .i64 0) (.int .i64 0) (.int .i64 0) (.int .i64 0) (.int .i64 0) (.int .i64 0) (.int .i64 0) HG.out (by omega) HB0.out)
    go_wp2
    (try simp only [Exit.inBlock, Exit.then])
    obtain ⟨r0, r1, r2, r3, r4, r5, r6, rf⟩ := cells7 hst.out.1
    refine bodyPost_ret (v := .tuple #[.agg #[.int .i64 0, .int .i64 0, .int .i64 0, .int .i64 0, .int .i64 0, .int .i64 0, .int .i64 0], .int .u16 y3]) ?_ rfl ⟨?_, hst.out.2⟩
    · rw [results_cell_tmp rfl]; go_simp
    · rw [E.out] <;> rfl
  subst he
  go_wp2_with fail
  refine (pdec_calls x2 _ HV2.out.1 HV2.out.2).mono ?_
  rintro e w4 ⟨rfl, hg⟩
  replace HB0 := Lib.hid (hg.heap HB0.out)
  replace HP := Lib.hid (hg.heap HP.out)
  replace HQC := Lib.hid (hg.heap HQC.out)
  replace HG := Lib.hid (HG.out.grow hg)
  replace HS := Lib.hid (HS.out.grow hg)
  clear hg
  have HQ2 := Lib.hid (ptrDec_ok x2 HV2.out.1)
  generalize (ptrDec x2).1 = s at *
  generalize (ptrDec x2).2 = y4 at *
  have hgs := (Keep.refl NoB w4).alloc (.cells #[.int .i64 s.kind, .int .i64 s.off, .int .i64 s.data, .int .i64 s.ptrs, .int .i64 s.size, .int .i64 s.count, .int .i64 s.seg, .bool s.dbl] 120)
  have hQs := heap_alloc_new w4 (.cells #[.int .i64 s.kind, .int .i64 s.off, .int .i64 s.data, .int .i64 s.ptrs, .int .i64 s.size, .int .i64 s.count, .int .i64 s.seg, .bool s.dbl] 120)
  replace HB0 := Lib.hid (Grow.heap hgs HB0.out)
  replace HP := Lib.hid (Grow.heap hgs HP.out)
  replace HG := Lib.hid (HG.out.grow hgs)
  replace HS := Lib.hid (HS.out.grow hgs)
  have HQD := Lib.hid hQs
  replace HQC := Lib.hid (Grow.heap hgs HQC.out)
  clear hgs hQs
  by_cases he : y4 = 0
  case neg =>
    have eb : (y4 != 0) = true := by simp [he]
    have E : Hid (twiceP sz wd p = (ob0, y4)) := Lib.hid (by rw [E0.out]; simp [he])
    clear he
    obtain ⟨b0, b1, b2, b3, b4, b5, b6, bf⟩ := cells7 HB0.out
    have hst := Lib.hid (stored7 (.int .i64 0) (.int .i64 0) (.int .i64 0) (.int .i64 0) (.int .i64 0) (.int .i64 0) (.int .i64 0) HG.out (by omega) HB0.out)
    go_wp2
    (try simp only [Exit.inBlock, Exit.then])
    obtain ⟨r0, r1, r2, r3, r4, r5, r6, rf⟩ := cells7 hst.out.1
    refine bodyPost_ret (v := .tuple #[.agg #[.int .i64 0, .int .i64 0, .int .i64 0, .int .i64 0, .int .i64 0, .int .i64 0, .int .i64 0], .int .u16 y4]) ?_ rfl ⟨?_, hst.out.2⟩
    · rw [results_cell_tmp rfl]; go_simp
    · rw [E.out] <;> rfl
  subst he
  have E1 : Hid (twiceP sz wd p = if q.kind = 3 ∧ q.dbl = false ∧ isNear s = true ∧ s.off = 0 then foundP sz s q.seg q.off else (ob0, 23)) := Lib.hid (by rw [E0.out]; simp)
  obtain ⟨q0, q1, q2, q3, q4, q5, q6, q7, qf⟩ := cells8 HQC.out
  obtain ⟨s0, s1, s2, s3, s4, s5, s6, s7, sf⟩ := cells8 HQD.out
  by_cases hk : q.kind = 3
  case neg =>
    have eb : (q.kind != 3) = true := by simp [hk]
    have E : Hid (twiceP sz wd p = (ob0, 23)) := Lib.hid (by rw [E1.out, if_neg (fun h => hk h.1)])
    clear hk
    obtain ⟨b0, b1, b2, b3, b4, b5, b6, bf⟩ := cells7 HB0.out
    have hst := Lib.hid (stored7 (.int .i64 0) (.int .i64 0) (.int .i64 0) (.int .i64 0) (.int .i64 0) (.int .i64 0) (.int .i64 0) HG.out (by omega) HB0.out)
    go_wp2
    (try simp only [Exit.inBlock, Exit.then])
    obtain ⟨r0, r1, r2, r3, r4, r5, r6, rf⟩ := cells7 hst.out.1
    refine bodyPost_ret (v := .tuple #[.agg #[.int .i64 0, .int .i64 0, .int .i64 0, .int .i64 0, .int .i64 0, .int .i64 0, .int .i64 0], .int .u16 23]) ?_ rfl ⟨?_, hst.out.2⟩
    · rw [results_cell_tmp rfl]; go_simp
    · rw [E.out] <;> rfl
  have ek : (q.kind != 3) = false := by simp [hk]
  cases hb : q.dbl with
  | true =>
    have E : Hid (twiceP sz wd p = (ob0, 23)) := Lib.hid (by rw [E1.out, if_neg (fun h => by rw [hb] at h; cases h.2.1)])
    clear hk
    obtain ⟨b0, b1, b2, b3, b4, b5, b6, bf⟩ := cells7 HB0.out
    have hst := Lib.hid (stored7 (.int .i64 0) (.int .i64 0) (.int .i64 0) (.int .i64 0) (.int .i64 0) (.int .i64 0) (.int .i64 0) HG.out (by omega) HB0.out)
    go_wp2
    (try simp only [Exit.inBlock, Exit.then])
    obtain ⟨r0, r1, r2, r3, r4, r5, r6, rf⟩ := cells7 hst.out.1
    refine bodyPost_ret (v := .tuple #[.agg #[.int .i64 0, .int .i64 0, .int .i64 0, .int .i64 0, .int .i64 0, .int .i64 0, .int .i64 0], .int .u16 23]) ?_ rfl ⟨?_, hst.out.2⟩
    · rw [results_cell_tmp rfl]; go_simp
    · rw [E.out] <;> rfl
  | false =>
    go_wp2_with fail
    refine (rnear_calls s _).mono ?_
    rintro e w5 ⟨rfl, hg⟩
    replace HB0 := Lib.hid (hg.heap HB0.out)
    replace HP := Lib.hid (hg.heap HP.out)
    replace HQC := Lib.hid (hg.heap HQC.out)
    replace HQD := Lib.hid (hg.heap HQD.out)
    replace HG := Lib.hid (HG.out.grow hg)
    replace HS := Lib.hid (HS.out.grow hg)
    clear hg
    clear s0 s1 s2 s3 s4 s5 s6 s7 sf q0 q1 q2 q3 q4 q5 q6 q7 qf
    obtain ⟨q0, q1, q2, q3, q4, q5, q6, q7, qf⟩ := cells8 HQC.out
    obtain ⟨s0, s1, s2, s3, s4, s5, s6, s7, sf⟩ := cells8 HQD.out
    cases hn : isNear s with
    | false =>
      have E : Hid (twiceP sz wd p = (ob0, 23)) := Lib.hid (by rw [E1.out, if_neg (fun h => by rw [hn] at h; cases h.2.2.1)])
      clear hn hk
      obtain ⟨b0, b1, b2, b3, b4, b5, b6, bf⟩ := cells7 HB0.out
      have hst := Lib.hid (stored7 (.int .i64 0) (.int .i64 0) (.int .i64 0) (.int .i64 0) (.int .i64 0) (.int .i64 0) (.int .i64 0) HG.out (by omega) HB0.out)
      go_wp2
      (try simp only [Exit.inBlock, Exit.then])
      obtain ⟨r0, r1, r2, r3, r4, r5, r6, rf⟩ := cells7 hst.out.1
      refine bodyPost_ret (v := .tuple #[.agg #[.int .i64 0, .int .i64 0, .int .i64 0, .int .i64 0, .int .i64 0, .int .i64 0, .int .i64 0], .int .u16 23]) ?_ rfl ⟨?_, hst.out.2⟩
      · rw [results_cell_tmp rfl]; go_simp
      · rw [E.out] <;> rfl
    | true =>
      by_cases hf : s.off = 0
      case neg =>
        have eb : (s.off != 0) = true := by simp [hf]
        have E : Hid (twiceP sz wd p = (ob0, 23)) := Lib.hid (by rw [E1.out, if_neg (fun h => hf h.2.2.2)])
        clear hn hk hf
        obtain ⟨b0, b1, b2, b3, b4, b5, b6, bf⟩ := cells7 HB0.out
        have hst := Lib.hid (stored7 (.int .i64 0) (.int .i64 0) (.int .i64 0) (.int .i64 0) (.int .i64 0) (.int .i64 0) (.int .i64 0) HG.out (by omega) HB0.out)
        go_wp2
        (try simp only [Exit.inBlock, Exit.then])
        obtain ⟨r0, r1, r2, r3, r4, r5, r6, rf⟩ := cells7 hst.out.1
        refine bodyPost_ret (v := .tuple #[.agg #[.int .i64 0, .int .i64 0, .int .i64 0, .int .i64 0, .int .i64 0, .int .i64 0, .int .i64 0], .int .u16 23]) ?_ rfl ⟨?_, hst.out.2⟩
        · rw [results_cell_tmp rfl]; go_simp
        · rw [E.out] <;> rfl
      have eb : (s.off != 0) = false := by simp [hf]
      have E : Hid (twiceP sz wd p = foundP sz s q.seg q.off) := Lib.hid (by rw [E1.out, if_pos ⟨hk, hb, hn, hf⟩])
      have qo1 := HQ1.out.o.1
      clear hn hk hf
      go_wp2_with fail
      refine (found_calls HS.out HSO.out s HQ2.out q.seg q.off (by omega)).mono ?_
      rintro e w6 ⟨rfl, hg⟩
      replace HB0 := Lib.hid (hg.heap HB0.out)
      replace HG := Lib.hid (HG.out.grow hg)
      replace HS := Lib.hid (HS.out.grow hg)
      clear hg
      obtain ⟨b0, b1, b2, b3, b4, b5, b6, bf⟩ := cells7 HB0.out
      have hst := Lib.hid (stored7 (.int .i64 (foundP sz s q.seg q.off).1.kind) (.int .i64 (foundP sz s q.seg q.off).1.seg) (.int .i64 (foundP sz s q.seg q.off).1.at_) (.int .i64 (foundP sz s q.seg q.off).1.data) (.int .i64 (foundP sz s q.seg q.off).1.ptrs) (.int .i64 (foundP sz s q.seg q.off).1.size) (.int .i64 (foundP sz s q.seg q.off).1.count) HG.out (by omega) HB0.out)
      go_wp2
      (try simp only [Exit.inBlock, Exit.then])
      obtain ⟨r0, r1, r2, r3, r4, r5, r6, rf⟩ := cells7 hst.out.1
      refine bodyPost_ret (v := .tuple #[.agg #[.int .i64 (foundP sz s q.seg q.off).1.kind, .int .i64 (foundP sz s q.seg q.off).1.seg, .int .i64 (foundP sz s q.seg q.off).1.at_, .int .i64 (foundP sz s q.seg q.off).1.data, .int .i64 (foundP sz s q.seg q.off).1.ptrs, .int .i64 (foundP sz s q.seg q.off).1.size, .int .i64 (foundP sz s q.seg q.off).1.count], .int .u16 (foundP sz s q.seg q.off).2]) ?_ rfl ⟨?_, hst.out.2⟩
      · rw [results_cell_tmp rfl]; go_simp
      · rw [E.out] <;> rfl
end Go.Proofs.YtfkcpaahdlkcdaaGreat
set_option linter.unusedSimpArgs false
set_option linter.unusedVariables false
namespace Go.Proofs.YtfkcpaahdlkcdaaGreat
open Go.RowKit

theorem ptrAt_zero {wd : Int → Int → Int × Int} {seg at_ : Int} (h : (ptrAt wd seg at_).2 = 0) : (wd seg at_).2 = 0 := by
  unfold ptrAt at h
  split at h
  · assumption
  · exact h
set_option maxRecDepth 100000 in
set_option maxHeartbeats 4000000 in
theorem follow_calls {sv : Value} {sz : List Int} {wd : Int → Int → Int × Int} {w : World} (h : Sou sv sz wd w) (ho : SouOk sz wd) (seg at_ : Int) : Calls Tryz.prog 233 #[sv, .int .i64 seg, .int .i64 at_] w (ObPost (followP sz wd seg at_) w) := by
  obtain ⟨T, pv, fw, fs, r, rfl, -⟩ := h.out
  have HG := Lib.hid ((Keep.refl NoB w).alloc (.cells #[.int .i64 0, .int .i64 0, .int .i64 0, .int .i64 0, .int .i64 0, .int .i64 0, .int .i64 0] 257))
  have HB0 := Lib.hid (heap_alloc_new w (.cells #[.int .i64 0, .int .i64 0, .int .i64 0, .int .i64 0, .int .i64 0, .int .i64 0, .int .i64 0] 257))
  have HS := Lib.hid (h.grow HG.out)
  have HSO := Lib.hid ho
  have HQ := Lib.hid (ptrAt_ok ho seg at_)
  have HI := Lib.hid (fun h => ho.inb seg at_ (ptrAt_zero h))
  have E0 : Hid (followP sz wd seg at_ = _) := Lib.hid (by unfold followP; exact rfl)
  clear h ho
  go_enter Tryz.func233, Tryz.ntmps233
  go_wp2_with fail
  refine (pointer_calls HS.out HSO.out seg at_).mono ?_
  rintro e w1 ⟨rfl, hg⟩
  replace HB0 := Lib.hid (hg.heap HB0.out)
  replace HG := Lib.hid (HG.out.grow hg)
  replace HS := Lib.hid (HS.out.grow hg)
  clear hg
  generalize (ptrAt wd seg at_).1 = p at *
  generalize (ptrAt wd seg at_).2 = y at *
  have hgp := (Keep.refl NoB w1).alloc (.cells #[.int .i64 p.kind, .int .i64 p.off, .int .i64 p.data, .int .i64 p.ptrs, .int .i64 p.size, .int .i64 p.count, .int .i64 p.seg, .bool p.dbl] 120)
  have hQp := heap_alloc_new w1 (.cells #[.int .i64 p.kind, .int .i64 p.off, .int .i64 p.data, .int .i64 p.ptrs, .int .i64 p.size, .int .i64 p.count, .int .i64 p.seg, .bool p.dbl] 120)
  replace HB0 := Lib.hid (Grow.heap hgp HB0.out)
  replace HG := Lib.hid (HG.out.grow hgp)
  replace HS := Lib.hid (HS.out.grow hgp)
  have HQC := Lib.hid hQp
  obtain ⟨q0, q1, q2, q3, q4, q5, q6, q7, qf⟩ := cells8 hQp
  clear hgp hQp
  by_cases he : y = 0
  case neg =>
    have eb : (y != 0) = true := by simp [he]
    have E : Hid (followP sz wd seg at_ = (ob0, y)) := Lib.hid (by rw [E0.out]; simp [he])
    clear he
    obtain ⟨b0, b1, b2, b3, b4, b5, b6, bf⟩ := cells7 HB0.out
    have hst := Lib.hid (stored7 (.int .i64 0) (.int .i64 0) (.int .i64 0) (.int .i64 0) (.int .i64 0) (.int .i64 0) (.int .i64 0) HG.out (by omega) HB0.out)
    go_wp2
    (try simp only [Exit.inBlock, Exit.then])
    obtain ⟨r0, r1, r2, r3, r4, r5, r6, rf⟩ := cells7 hst.out.1
    refine bodyPost_ret (v := .tuple #[.agg #[.int .i64 0, .int .i64 0, .int .i64 0, .int .i64 0, .int .i64 0, .int .i64 0, .int .i64 0], .int .u16 y]) ?_ rfl ⟨?_, hst.out.2⟩
    · rw [results_cell_tmp rfl]; go_simp
    · rw [E.out] <;> rfl
  subst he
  by_cases hk : p.kind = 0
  · have eb : (p.kind == 0) = true := by simp [hk]
    have E : Hid (followP sz wd seg at_ = (ob0, 0)) := Lib.hid (by rw [E0.out]; simp [hk])
    clear hk
    obtain ⟨b0, b1, b2, b3, b4, b5, b6, bf⟩ := cells7 HB0.out
    have hst := Lib.hid (stored7 (.int .i64 0) (.int .i64 0) (.int .i64 0) (.int .i64 0) (.int .i64 0) (.int .i64 0) (.int .i64 0) HG.out (by omega) HB0.out)
    go_wp2
    (try simp only [Exit.inBlock, Exit.then])
    obtain ⟨r0, r1, r2, r3, r4, r5, r6, rf⟩ := cells7 hst.out.1
    refine bodyPost_ret (v := .tuple #[.agg #[.int .i64 0, .int .i64 0, .int .i64 0, .int .i64 0, .int .i64 0, .int .i64 0, .int .i64 0], .int .u16 0]) ?_ rfl ⟨?_, hst.out.2⟩
    · rw [results_cell_tmp rfl]; go_simp
    · rw [E.out] <;> rfl
  have ek : (p.kind == 0) = false := by simp [hk]
  have Hk := Lib.hid hk
  clear hk
  go_wp2_with fail
  refine (rnear_calls p _).mono ?_
  rintro e w2 ⟨rfl, hg⟩
  replace HB0 := Lib.hid (hg.heap HB0.out)
  replace HQC := Lib.hid (hg.heap HQC.out)
  replace HG := Lib.hid (HG.out.grow hg)
  replace HS := Lib.hid (HS.out.grow hg)
  clear hg
  clear q0 q1 q2 q3 q4 q5 q6 q7 qf
  obtain ⟨q0, q1, q2, q3, q4, q5, q6, q7, qf⟩ := cells8 HQC.out
  cases hn : isNear p with
  | true =>
    have E : Hid (followP sz wd seg at_ = foundP sz p seg (at_ + 1 + p.off)) := Lib.hid (by rw [E0.out]; simp [hn, Hk.out])
    have hi := HI.out (by simp)
    have at0 := hi.2.1
    have at1 := hi.2.2
    have qo1 := HQ.out.o.1
    have qo2 := HQ.out.o.2
    clear hn hi
    go_wp2_with fail
    refine (found_calls HS.out HSO.out p HQ.out seg (at_ + 1 + p.off) (by omega)).mono ?_
    rintro e w3 ⟨rfl, hg⟩
    replace HB0 := Lib.hid (hg.heap HB0.out)
    replace HG := Lib.hid (HG.out.grow hg)
    replace HS := Lib.hid (HS.out.grow hg)
    clear hg
    obtain ⟨b0, b1, b2, b3, b4, b5, b6, bf⟩ := cells7 HB0.out
    have hst := Lib.hid (stored7 (.int .i64 (foundP sz p seg (at_ + 1 + p.off)).1.kind) (.int .i64 (foundP sz p seg (at_ + 1 + p.off)).1.seg) (.int .i64 (foundP sz p seg (at_ + 1 + p.off)).1.at_) (.int .i64 (foundP sz p seg (at_ + 1 + p.off)).1.data) (.int .i64 (foundP sz p seg (at_ + 1 + p.off)).1.ptrs) (.int .i64 (foundP sz p seg (at_ + 1 + p.off)).1.size) (.int .i64 (foundP sz p seg (at_ + 1 + p.off)).1.count) HG.out (by omega) HB0.out)
    go_wp2
    (try simp only [Exit.inBlock, Exit.then])
    obtain ⟨r0, r1, r2, r3, r4, r5, r6, rf⟩ := cells7 hst.out.1
    refine bodyPost_ret (v := .tuple #[.agg #[.int .i64 (foundP sz p seg (at_ + 1 + p.off)).1.kind, .int .i64 (foundP sz p seg (at_ + 1 + p.off)).1.seg, .int .i64 (foundP sz p seg (at_ + 1 + p.off)).1.at_, .int .i64 (foundP sz p seg (at_ + 1 + p.off)).1.data, .int .i64 (foundP sz p seg (at_ + 1 + p.off)).1.ptrs, .int .i64 (foundP sz p seg (at_ + 1 + p.off)).1.size, .int .i64 (foundP sz p seg (at_ + 1 + p.off)).1.count], .int .u16 (foundP sz p seg (at_ + 1 + p.off)).2]) ?_ rfl ⟨?_, hst.out.2⟩
    · rw [results_cell_tmp rfl]; go_simp
    · rw [E.out] <;> rfl
  | false =>
    cases hd : p.dbl with
    | true =>
      have E : Hid (followP sz wd seg at_ = twiceP sz wd p) := Lib.hid (by rw [E0.out]; simp [hn, Hk.out, hd])
      clear hn
      go_wp2_with fail
      have ht := twice_calls HS.out HSO.out p HQ.out
      rw [hd] at ht
      refine (ht).mono ?_
      rintro e w3 ⟨rfl, hg⟩
      replace HB0 := Lib.hid (hg.heap HB0.out)
      replace HG := Lib.hid (HG.out.grow hg)
      replace HS := Lib.hid (HS.out.grow hg)
      clear hg
      obtain ⟨b0, b1, b2, b3, b4, b5, b6, bf⟩ := cells7 HB0.out
      have hst := Lib.hid (stored7 (.int .i64 (twiceP sz wd p).1.kind) (.int .i64 (twiceP sz wd p).1.seg) (.int .i64 (twiceP sz wd p).1.at_) (.int .i64 (twiceP sz wd p).1.data) (.int .i64 (twiceP sz wd p).1.ptrs) (.int .i64 (twiceP sz wd p).1.size) (.int .i64 (twiceP sz wd p).1.count) HG.out (by omega) HB0.out)
      go_wp2
      (try simp only [Exit.inBlock, Exit.then])
      obtain ⟨r0, r1, r2, r3, r4, r5, r6, rf⟩ := cells7 hst.out.1
      refine bodyPost_ret (v := .tuple #[.agg #[.int .i64 (twiceP sz wd p).1.kind, .int .i64 (twiceP sz wd p).1.seg, .int .i64 (twiceP sz wd p).1.at_, .int .i64 (twiceP sz wd p).1.data, .int .i64 (twiceP sz wd p).1.ptrs, .int .i64 (twiceP sz wd p).1.size, .int .i64 (twiceP sz wd p).1.count], .int .u16 (twiceP sz wd p).2]) ?_ rfl ⟨?_, hst.out.2⟩
      · rw [results_cell_tmp rfl]; go_simp
      · rw [E.out] <;> rfl
    | false =>
      have E : Hid (followP sz wd seg at_ = landedP sz wd p) := Lib.hid (by rw [E0.out]; simp [hn, Hk.out, hd])
      clear hn
      go_wp2_with fail
      have ht := landed_calls HS.out HSO.out p HQ.out
      rw [hd] at ht
      refine (ht).mono ?_
      rintro e w3 ⟨rfl, hg⟩
      replace HB0 := Lib.hid (hg.heap HB0.out)
      replace HG := Lib.hid (HG.out.grow hg)
      replace HS := Lib.hid (HS.out.grow hg)
      clear hg
      obtain ⟨b0, b1, b2, b3, b4, b5, b6, bf⟩ := cells7 HB0.out
      have hst := Lib.hid (stored7 (.int .i64 (landedP sz wd p).1.kind) (.int .i64 (landedP sz wd p).1.seg) (.int .i64 (landedP sz wd p).1.at_) (.int .i64 (landedP sz wd p).1.data) (.int .i64 (landedP sz wd p).1.ptrs) (.int .i64 (landedP sz wd p).1.size) (.int .i64 (landedP sz wd p).1.count) HG.out (by omega) HB0.out)
      go_wp2
      (try simp only [Exit.inBlock, Exit.then])
      obtain ⟨r0, r1, r2, r3, r4, r5, r6, rf⟩ := cells7 hst.out.1
      refine bodyPost_ret (v := .tuple #[.agg #[.int .i64 (landedP sz wd p).1.kind, .int .i64 (landedP sz wd p).1.seg, .int .i64 (landedP sz wd p).1.at_, .int .i64 (landedP sz wd p).1.data, .int .i64 (landedP sz wd p).1.ptrs, .int .i64 (landedP sz wd p).1.size, .int .i64 (landedP sz wd p).1.count], .int .u16 (landedP sz wd p).2]) ?_ rfl ⟨?_, hst.out.2⟩
      · rw [results_cell_tmp rfl]; go_simp
      · rw [E.out] <;> rfl
end Go.Proofs.YtfkcpaahdlkcdaaGreat
set_option linter.unusedSimpArgs false
set_option linter.unusedVariables false
namespace Go.Proofs.YtfkcpaahdlkcdaaGreat
open Go.RowKit

/-- A number as bytes, the least first. -/
def putB (x : Int) (s : Nat) : List Int := (List.range s).map (fun k => x / 2 ^ (8 * k) % 256)
theorem putB_length (x : Int) (s : Nat) : (putB x s).length = s := by simp [putB]
theorem u8s_set (l : List Int) (i : Nat) (x : Int) : (u8s l).set i (.int .u8 x) = u8s (l.set i x) := by
  simp [u8s, List.map_set]
def putS (x : Int) (s k : Nat) : List Int := (List.range s).map (fun j => if j < k then x / 2 ^ (8 * j) % 256 else 0)
theorem putS_succ (x : Int) (s k : Nat) (hk : k < s) : (putS x s k).set k (x / 2 ^ (8 * k) % 256) = putS x s (k + 1) := by
  apply List.ext_getElem (by simp [putS])
  intro j h1 h2
  rw [List.getElem_set]
  simp only [putS, List.getElem_map, List.getElem_range]
  split
  · rename_i e
    subst e
    rw [if_pos (by omega)]
  · rename_i e
    by_cases hj : j < k
    · rw [if_pos hj, if_pos (by omega)]
    · rw [if_neg hj, if_neg (by omega)]
theorem putS_full (x : Int) (s : Nat) : putS x s s = putB x s := by
  unfold putS putB
  apply List.map_congr_left
  intro j hj
  rw [if_pos (by simpa using hj)]

set_option maxRecDepth 100000 in
set_option maxHeartbeats 2000000 in
theorem put_calls (x : Int) (s : Nat) (w : World) (hx : 0 ≤ x) (hx2 : x ≤ 18446744073709551615) (h1 : 1 ≤ s) (h8 : s ≤ 8) :
    Calls Tryz.prog 137 #[.int .u64 x, .int .i64 s] w fun e w' => ∃ A c, e = .returned (.slice A (putB x s).length c) ∧ Grow w w' ∧ w'.ownsRow w.heap.size 5 1 (.slice A (putB x s).length c) (putB x s).length (u8s (putB x s)) := by
  obtain ⟨ib, hib, hb1, hb2, hb3⟩ : ∃ i, Tryz.prog.info? 5 = some i ∧ i.zero = some (.int .u8 0) ∧ i.size = 1 ∧ i.bytes = 1 := by
    have h := info_u8
    cases hi : Tryz.prog.info? 5 with
    | none => rw [hi] at h; cases h
    | some i =>
      rw [hi] at h
      simp only [Option.map_some, Option.some.injEq, Prod.mk.injEq] at h
      exact ⟨i, rfl, h.1, h.2.1, h.2.2⟩
  have hs0 : (0 : Int) < s := by omega
  have hs8 : (s : Int) ≤ 8 := by omega
  go_enter Tryz.func137, Tryz.ntmps137
  go_wp2_with (at_make; refine wpList_make_full _ rfl _ _ _ rfl w.heap.size 5 ib (.int .u8 0) 1 u_bytes hib hb1 hb2 _ _ _ _ s rfl rfl rfl rfl (by rw [hb3]; omega) (by simp [maxLen]; omega) (Nat.le_refl _) ?_; intro w2 hown hgr; refine Hid.out ?_)
  refine Lib.hid ?_
  have h0 : u8s (putS x s 0) = (madeCells (Value.int .u8 0).cells (s * 1)).toList := by
    apply List.ext_getElem (by simp [u8s, putS, madeCells, Value.cells])
    intro j h1 h2
    simp [u8s, putS, madeCells, Value.cells, Nat.mod_one]
  rw [← h0] at hown
  have HS : Hid (Grow w w2 ∧ w2.ownsRow w.heap.size 5 1 (.slice (some ⟨w.heap.size, 0, none⟩) s s) s (u8s (putS x s 0))) := ⟨(Keep.refl NoB w).grown hgr (by simp), hown⟩
  clear hib hb1 hb2 hb3 hgr hown h0
  go_wp2
  go_loopw [13] (fun v wr => ∃ k : Nat, k ≤ s ∧ v = .int .i64 k ∧ Hid (Grow w wr ∧ wr.ownsRow w.heap.size 5 1 (.slice (some ⟨w.heap.size, 0, none⟩) s s) s (u8s (putS x s k)))) (fun v _ => s - (intOf v).toNat)
  case atStart => exact ⟨0, by omega, rfl, HS⟩
  case round =>
    clear HS
    obtain ⟨k, hk, rfl, HS⟩ := hrel
    by_cases hlt : k < s
    · have hlt' : (k : Int) < s := by omega
      have hw : IntKind.i64.wrap ((k : Int) + 1) = (k : Int) + 1 := IntWalk.i64_in _ (by omega)
      have hst := HS.out.2.stored k (.int .u8 (x / 2 ^ (8 * k) % 256))
      rw [u8s_set, putS_succ x s k hlt] at hst
      have hg3 := HS.out.1.setCell (p := ⟨w.heap.size, k, none⟩) (.inr (Nat.le_refl _)) (.int .u8 (x / 2 ^ (8 * k) % 256))
      have HS2 := Lib.hid (And.intro hg3 hst.1)
      obtain ⟨c, hc⟩ : ∃ c, wr.cell? ⟨w.heap.size, k, none⟩ = some c := by
        obtain ⟨r, c2, e, _, _, hcs⟩ := own_cells HS.out.2 (by omega)
        injection e with e1
        injection e1 with e1
        injection e1 with e1
        subst e1
        have := hcs k ((u8s (putS x s k))[k]'(by simp [u8s, putS]; omega)) (List.getElem?_eq_getElem _)
        exact ⟨_, by simpa using this⟩
      have hf : wr.frozen? ⟨w.heap.size, k, none⟩ = false := HS.out.2.frozenAt _
      clear hst hg3
      go_wp2
      go_roundw
      case rel => exact ⟨k + 1, by omega, by go_num, HS2.out.1, HS2.out.2⟩
      case measure => simp [intOf]; omega
    · obtain rfl : k = s := by omega
      have hlt' : ¬ ((k : Int) < k) := by omega
      go_wp2
      go_ret
      have ho := HS.out.2
      rw [putS_full] at ho
      exact ⟨some ⟨w.heap.size, 0, none⟩, k, by rw [putB_length]; rfl, HS.out.1, by rw [putB_length]; exact ho⟩

/-- A decoder: its source, and what it has paid. -/
def Dec (D : Nat) (sv : Value) (paid : Int) (w : World) : Prop := w.heap[D]? = some (.cells #[sv, .int .i64 paid] 342 (0, 0))
theorem Dec.lt {D : Nat} {sv : Value} {paid : Int} {w : World} (h : Dec D sv paid w) : D < w.heap.size := (Array.getElem?_eq_some_iff.1 h).1
theorem Dec.grow {D : Nat} {sv : Value} {paid : Int} {w w' : World} (h : Dec D sv paid w) (hg : Grow w w') : Dec D sv paid w' := hg.heap h
theorem Dec.c0 {D : Nat} {sv : Value} {paid : Int} {w : World} (h : Dec D sv paid w) : w.cell? ⟨D, 0, none⟩ = some sv := World.news_of_block h 0 _ rfl
theorem Dec.c1 {D : Nat} {sv : Value} {paid : Int} {w : World} (h : Dec D sv paid w) : w.cell? ⟨D, 1, none⟩ = some (.int .i64 paid) := World.news_of_block h 1 _ rfl
def wordsP (wd : Int → Int → Int × Int) (seg at_ : Int) (n : Nat) : List Int := (List.range n).map (fun (i : Nat) => (wd seg (at_ + i)).1)
theorem wordsP_length (wd : Int → Int → Int × Int) (seg at_ : Int) (n : Nat) : (wordsP wd seg at_ n).length = n := by simp [wordsP]
theorem wordsP_succ (wd : Int → Int → Int × Int) (seg at_ : Int) (n : Nat) : u64s (wordsP wd seg at_ (n + 1)) = u64s (wordsP wd seg at_ n) ++ [.int .u64 (wd seg (at_ + n)).1] := by
  simp [wordsP, u64s, List.range_succ]
set_option maxRecDepth 100000 in
set_option maxHeartbeats 2000000 in
theorem dwords_calls {D : Nat} {sv : Value} {sz : List Int} {wd : Int → Int → Int × Int} {paid : Int} {w : World} (hD : Dec D sv paid w) (h : Sou sv sz wd w) (seg at_ : Int) (n : Nat) (h0 : 0 ≤ at_) (h1 : at_ + n ≤ 10000000) :
    Calls Tryz.prog 266 #[.pointer (some ⟨D, 0, none⟩), .int .i64 seg, .int .i64 at_, .int .i64 n] w fun e w' => ∃ A c, e = .returned (.slice A n c) ∧ Grow w w' ∧ w'.ownsRow w.heap.size 22 1 (.slice A n c) n (u64s (wordsP wd seg at_ n)) := by
  obtain ⟨T, pv, fw, fs, r, rfl, h2, h3, k1, k2, h4, h5⟩ := h.out
  have HD := Lib.hid hD
  have H4 := Lib.hid h4
  clear h hD h3 k2 h4 h5
  have hlo : at_ ≤ 10000000 := by omega
  have hnn : n ≤ 10000000 := by omega
  go_enter Tryz.func266, Tryz.ntmps266
  go_wp2
  go_loopw [9, 14] (fun vo v wr => ∃ k : Nat, k ≤ n ∧ v = .int .i64 k ∧ ∃ A4 c4, vo = .slice A4 k c4 ∧ Hid (Grow w wr ∧ wr.ownsRow w.heap.size 22 1 (.slice A4 k c4) k (u64s (wordsP wd seg at_ k)))) (fun _ v _ => n - (intOf v).toNat)
  case atStart => exact ⟨0, by omega, rfl, none, 0, rfl, Keep.refl _ _, by simpa [u64s, wordsP] using World.ownsRow_nil w w.heap.size 22 1⟩
  case round =>
    obtain ⟨k, hk, rfl, A4, c4, rfl, HS⟩ := hrel
    by_cases hlt : k < n
    · have hw : IntKind.i64.wrap ((k : Int) + 1) = (k : Int) + 1 := IntWalk.i64_in _ (by omega)
      have hlt' : (k : Int) < n := by omega
      have hc0 := (HD.out.grow HS.out.1).c0
      go_wp2_with fail
      refine (H4.out _ HS.out.1 seg (at_ + k)).mono ?_
      rintro e w2 ⟨rfl, hg⟩
      have HS2 : Hid (Grow w w2 ∧ w2.ownsRow w.heap.size 22 1 (.slice A4 k c4) k (u64s (wordsP wd seg at_ k))) := ⟨HS.out.1.grow hg, own_keep HS.out.2 hg (fun _ _ h => h)⟩
      have E1 := Lib.hid (wordsP_succ wd seg at_ k)
      clear hg hc0
      go_wp2_with (at_builtin; refine wpList_app _ rfl _ _ 111 111 rfl w.heap.size 22 (.int .u64 0) 1 8 u_u64s info_u64 rfl (.slice A4 k c4) k (u64s (wordsP wd seg at_ k)) rfl (.slice (some ⟨w2.heap.size, 0, none⟩) 1 1) 1 [.int .u64 (wd seg (at_ + k)).1] rfl ?_ (by exact own_keep HS2.out.2 ((Keep.refl NoB w2).alloc _) (fun _ _ h => h)) (by exact Src.ofSlice _ u_u64s ⟨w2.heap.size, 0, none⟩ 1 1 _ rfl (World.news_of_block (cs := #[.int .u64 (wd seg (at_ + k)).1]) (t := 22) (fr := (0, 0)) (heap_alloc_new w2 _)) (by simp [Value.oneCell'])) (by simp only [maxLen]; omega) (by omega) (by have := HS2.out.1.size; simp; omega); intro v3 w3 hap; refine Hid.out ?_)
      refine Lib.hid ?_
      have Hg3 : Hid (Grow w w3) := ((((HS2.out.1.mono (T := fun k => w.heap.size ≤ k) (fun _ h => h.elim)).alloc _).grown hap.grew (fun k hk => .inl (HS2.out.2.lt k hk).1))).new (fun _ h => h)
      have Ho3 := Lib.hid hap.own
      obtain ⟨A6, c6, rfl, _⟩ := own_slice hap.own
      clear hap
      rw [← E1.out] at Ho3
      go_wp2
      go_roundw
      case rel => exact ⟨k + 1, by omega, by go_num, A6, c6, rfl, Hg3.out, Ho3.out⟩
      case measure => simp [intOf]; omega
    · obtain rfl : k = n := by omega
      have hlt' : ¬ ((k : Int) < k) := by omega
      go_wp2
      go_ret
      exact ⟨A4, c4, rfl, HS.out.1, HS.out.2⟩

theorem own_take {base e size n c : Nat} {A : Option Addr} {xs : List Value} {w : World} (h : w.ownsRow base e size (.slice A n c) n xs) (m : Nat) (hm : m ≤ n) : w.ownsRow base e size (.slice A m c) m (xs.take (m * size)) := by
  have hle : m * size ≤ n * size := Nat.mul_le_mul_right _ hm
  obtain ⟨h1, h2⟩ := h
  refine ⟨by rw [List.length_take, h1]; omega, ?_⟩
  rcases h2 with ⟨h2, h3⟩ | ⟨g, cap, cur, hv, hb, hg, hn, hmx, hs, ht⟩
  · injection h2 with e1 e2 e3
    subst e1
    subst e3
    left
    obtain rfl : m = 0 := by omega
    exact ⟨rfl, by simp⟩
  · injection hv with hv1 hv2 hv3
    subst hv3
    refine .inr ⟨g, c, cur, by rw [hv1], hb, hg, by omega, hmx, hs, ?_⟩
    rw [← ht, List.take_take]
    congr 1
    omega
def bytesQ (wd : Int → Int → Int × Int) (seg at_ : Int) (m : Nat) : List Int := (wordsP wd seg at_ m).flatMap (fun x => putB x 8)
def bytesP (wd : Int → Int → Int × Int) (seg at_ : Int) (n : Nat) : List Int := (bytesQ wd seg at_ ((n + 7) / 8)).take n
theorem bytesQ_length (wd : Int → Int → Int × Int) (seg at_ : Int) (m : Nat) : (bytesQ wd seg at_ m).length = m * 8 := by
  induction m with
  | zero => simp [bytesQ, wordsP]
  | succ m ih =>
    have : bytesQ wd seg at_ (m + 1) = bytesQ wd seg at_ m ++ putB (wd seg (at_ + m)).1 8 := by simp [bytesQ, wordsP, List.range_succ]
    rw [this, List.length_append, ih, putB_length]
    omega
theorem bytesQ_succ (wd : Int → Int → Int × Int) (seg at_ : Int) (m : Nat) : u8s (bytesQ wd seg at_ (m + 1)) = u8s (bytesQ wd seg at_ m) ++ u8s (putB (wd seg (at_ + m)).1 8) := by
  simp [bytesQ, wordsP, List.range_succ, u8s]
theorem bytesP_length (wd : Int → Int → Int × Int) (seg at_ : Int) (n : Nat) : (bytesP wd seg at_ n).length = n := by
  unfold bytesP
  rw [List.length_take, bytesQ_length]
  omega
end Go.Proofs.YtfkcpaahdlkcdaaGreat
set_option linter.unusedSimpArgs false
set_option linter.unusedVariables false
namespace Go.Proofs.YtfkcpaahdlkcdaaGreat
open Go.RowKit

theorem ceil8_calls (n : Nat) (w : World) (h : n ≤ 10000000) : Calls Tryz.prog 140 #[.int .i64 n, .int .i64 8] w fun e w' => e = .returned (.int .i64 ((n + 7) / 8 : Nat)) ∧ w = w' := by
  refine (ceil_calls n 8 w (by omega) (by omega) (by omega) (by omega)).mono ?_
  rintro e w' ⟨rfl, rfl⟩
  exact ⟨by congr 2; omega, rfl⟩
theorem own_le {base b2 e size n : Nat} {v : Value} {xs : List Value} {w : World} (h : w.ownsRow base e size v n xs) (hb : b2 ≤ base) : w.ownsRow b2 e size v n xs := by
  refine ⟨h.1, ?_⟩
  rcases h.2 with h2 | ⟨g, cap, cur, rfl, hg, r⟩
  · exact .inl h2
  · exact .inr ⟨g, cap, cur, rfl, Nat.le_trans hb hg, r⟩
theorem u8s_one' (l : List Int) : ∀ u ∈ u8s l, u.oneCell' = true := u8s_one l

set_option maxRecDepth 100000 in
set_option maxHeartbeats 2000000 in
theorem dbytes_calls {D : Nat} {sv : Value} {sz : List Int} {wd : Int → Int → Int × Int} {paid : Int} {w : World} (hD : Dec D sv paid w) (h : Sou sv sz wd w) (hv : ∀ seg at_, 0 ≤ (wd seg at_).1 ∧ (wd seg at_).1 ≤ 18446744073709551615) (seg at_ : Int) (n : Nat) (h0 : 0 ≤ at_) (h1 : at_ ≤ 1000000) (hn : n ≤ 1000000) :
    Calls Tryz.prog 267 #[.pointer (some ⟨D, 0, none⟩), .int .i64 seg, .int .i64 at_, .int .i64 n] w fun e w' => ∃ A c, e = .returned (.slice A n c) ∧ Grow w w' ∧ w'.ownsRow w.heap.size 5 1 (.slice A n c) n (u8s (bytesP wd seg at_ n)) := by
  have HD := Lib.hid hD
  have HS := Lib.hid h
  have HV := Lib.hid hv
  clear h hD hv
  have hm7 : n ≤ (n + 7) / 8 * 8 := by omega
  have hmb : (n + 7) / 8 ≤ 1000000 := by omega
  have hC := ceil8_calls n w (by omega)
  have hBP : bytesP wd seg at_ n = (bytesQ wd seg at_ ((n + 7) / 8)).take n := rfl
  generalize (n + 7) / 8 = m at hm7 hmb hC hBP
  have HC := Lib.hid hC
  have HBP := Lib.hid hBP
  clear hC hBP
  go_enter Tryz.func267, Tryz.ntmps267
  go_wp2_with fail
  refine HC.out.mono ?_
  rintro e w1 ⟨rfl, rfl⟩
  go_wp2_with fail
  refine (dwords_calls HD.out HS.out seg at_ m h0 (by omega)).mono ?_
  rintro e w1 ⟨A1, c1, rfl, hg1, ho1⟩
  have Hg1 := Lib.hid hg1
  have Ho1 := Lib.hid ho1
  clear hg1 ho1
  go_wp2
  go_loopw [9, 19] (fun vo v wr => ∃ k : Nat, k ≤ m ∧ v = .int .i64 k ∧ ∃ A4 c4, vo = .slice A4 (k * 8) c4 ∧ Hid (Grow w1 wr ∧ wr.ownsRow w1.heap.size 5 1 (.slice A4 (k * 8) c4) (k * 8) (u8s (bytesQ wd seg at_ k)))) (fun _ v _ => m - (intOf v).toNat)
  case atStart => exact ⟨0, by omega, rfl, none, 0, by simp, Keep.refl _ _, by simpa [u8s, bytesQ, wordsP] using World.ownsRow_nil w1 w1.heap.size 5 1⟩
  case round =>
    obtain ⟨k, hk, rfl, A4, c4, rfl, HL⟩ := hrel
    by_cases hlt : k < m
    · have hw : IntKind.i64.wrap ((k : Int) + 1) = (k : Int) + 1 := IntWalk.i64_in _ (by omega)
      have hlt' : (k : Int) < m := by omega
      obtain ⟨ad, rfl, q1⟩ := SliceR.at1 ((SliceR.of_own Ho1.out).grow HL.out.1) k (by simpa [u64s, wordsP] using hlt)
      have e1 : (u64s (wordsP wd seg at_ m))[k]'(by simpa [u64s, wordsP] using hlt) = .int .u64 (wd seg (at_ + k)).1 := by simp [u64s, wordsP]
      rw [e1] at q1
      have hval := HV.out seg (at_ + k)
      have Hsu := Lib.hid (bytesQ_succ wd seg at_ k)
      clear e1
      go_wp2_with fail
      refine (put_calls (wd seg (at_ + k)).1 8 wr hval.1 hval.2 (by omega) (by omega)).mono ?_
      rintro e w2 ⟨A5, c5, rfl, hg, ho⟩
      have hpl := putB_length (wd seg (at_ + k)).1 8
      rw [hpl] at ho ⊢
      have HL2 : Hid (Grow w1 w2 ∧ w2.ownsRow w1.heap.size 5 1 (.slice A4 (k * 8) c4) (k * 8) (u8s (bytesQ wd seg at_ k))) := ⟨HL.out.1.grow hg, own_keep HL.out.2 hg (fun _ _ h => h)⟩
      have Hsrc := Lib.hid ((SliceR.of_own ho).src u_bytes (u8s_one _))
      clear hg ho hpl q1 hval
      go_wp2_with (at_builtin; refine wpList_app _ rfl _ _ 23 23 rfl w1.heap.size 5 (.int .u8 0) 1 1 u_bytes info_u8 rfl (.slice A4 (k * 8) c4) (k * 8) (u8s (bytesQ wd seg at_ k)) rfl (.slice A5 8 c5) 8 (u8s (putB (wd seg (at_ + k)).1 8)) rfl ?_ (by exact HL2.out.2) (by exact Hsrc.out) (by simp only [maxLen]; omega) (by omega) (by exact HL2.out.1.size); intro v3 w3 hap; refine Hid.out ?_)
      refine Lib.hid ?_
      have Hg3 : Hid (Grow w1 w3) := (((HL2.out.1.mono (T := fun k => w1.heap.size ≤ k) (fun _ h => h.elim)).grown hap.grew (fun k hk => .inl (HL2.out.2.lt k hk).1))).new (fun _ h => h)
      have ho3 := hap.own
      rw [← Hsu.out, show k * 8 + 8 = (k + 1) * 8 from by omega] at ho3
      have Ho3 := Lib.hid ho3
      obtain ⟨A6, c6, rfl, _⟩ := own_slice ho3
      clear hap ho3
      go_wp2
      go_roundw
      case rel => exact ⟨k + 1, by omega, by go_num, A6, c6, rfl, Hg3.out, Ho3.out⟩
      case measure => simp [intOf]; omega
    · obtain rfl : k = m := by omega
      have hlt' : ¬ ((k : Int) < k) := by omega
      have hnk : (n : Int) ≤ (k * 8 : Nat) := by omega
      obtain ⟨A7, c7, e7, hnc, _, hnil⟩ := own_slice HL.out.2
      injection e7 with e7a e7b e7c
      subst e7a
      subst e7c
      have hnc' : (n : Int) ≤ c4 := by omega
      go_wp2
      go_ret
      have ho := own_take HL.out.2 n hm7
      rw [Nat.mul_one, show (u8s (bytesQ wd seg at_ k)).take n = u8s (bytesP wd seg at_ n) from by rw [HBP.out]; simp [u8s, List.map_take]] at ho
      exact ⟨A4, c4, rfl, Hg1.out.grow HL.out.1, own_le ho Hg1.out.size⟩
end Go.Proofs.YtfkcpaahdlkcdaaGreat
