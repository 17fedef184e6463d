import Derived.Test.YtfkcpaahdlkcdaaGreatM06
/-! Joined: SdU, SdV. -/
set_option linter.unusedSimpArgs false
set_option linter.unusedVariables false
namespace Go.Proofs.YtfkcpaahdlkcdaaGreat
open Go.RowKit

set_option maxRecDepth 100000 in
set_option maxHeartbeats 4000000 in
theorem node_s2 {sz : List Int} {wd : Int → Int → Int × Int} (ho : SouOk sz wd) {l : Nat} (IH : Hid (NodeAt sz wd l)) (hll : l ≤ 1000) (sv : Value) (W0 : World) (D : Nat) (paid seg at_ : Int) (w : World) (hS : Sou sv sz wd W0) (hD : Dec D sv paid w) (hD0 : W0.heap.size ≤ D) (hg : Grow W0 w) (p0 : 0 ≤ paid) (p1 : paid ≤ 8192) (hcase : (followP sz wd seg at_).1.size = 2) (hkz : (followP sz wd seg at_).1.kind ≠ 0) :
    Calls Tryz.prog 244 #[.pointer (some ⟨D, 0, none⟩), .int .i64 seg, .int .i64 at_, .int .i64 (l + 1 : Nat)] w (NPost (nodeP sz wd (l + 1) seg at_ paid) D sv w) := by
  obtain ⟨T, pv, fw, fs, r, rfl, -⟩ := hS.out
  have HSO := Lib.hid ho
  have HS0 := Lib.hid hS
  have hg0 := (Keep.refl NoB w).alloc (.cells #[.int .i64 0, .int .i64 0, .slice none 0 0, .slice none 0 0, .slice none 0 0] 114)
  have HS := Lib.hid (hS.grow (hg.grow hg0))
  have dc0 := (hD.grow hg0).c0
  have HD := Lib.hid (And.intro hD (And.intro hD0 hg))
  have E0 : Hid (nodeP sz wd (l + 1) seg at_ paid = nodeS sz wd false (nodeP sz wd l) seg at_ paid) := Lib.hid rfl
  clear hS hD hD0 hg hg0 ho
  go_enter Tryz.func244, Tryz.ntmps244
  go_wp2_with fail
  refine (follow_calls HS.out HSO.out seg at_).mono ?_
  rintro e w1 ⟨rfl, hg1⟩
  have HO := Lib.hid (followP_in HSO.out seg at_)
  unfold nodeS at E0
  generalize (followP sz wd seg at_).1 = o at *
  generalize (followP sz wd seg at_).2 = fe at *
  have HNS := Lib.hid (ns_start (o := o) HD.out.1 HD.out.2.1 HD.out.2.2 hg1)
  clear hg1 dc0
  have HC := Lib.hid hcase
  have HKZ := Lib.hid hkz
  clear hcase hkz
  by_cases he : fe = 0
  case neg =>
    have eb : (fe != 0) = true := by simp [he]
    have E := Lib.hid (E0.out.trans (if_neg he))
    clear he
    obtain ⟨n0, n1, n2, n3, n4, nf⟩ := cells5 HNS.out.nod
    have HNE := Lib.hid (HNS.out.all (.int .i64 0) (.int .i64 0) (.slice none 0 0) (.slice none 0 0) (.slice none 0 0))
    go_wp2
    (try simp only [Exit.inBlock, Exit.then])
    obtain ⟨r0, r1, r2, r3, r4, rf⟩ := cells5 HNE.out.nod
    refine bodyPost_ret (v := .tuple #[.agg #[.int .i64 0, .int .i64 0, .slice none 0 0, .slice none 0 0, .slice none 0 0], .int .u16 fe]) ?_ rfl (npost_fail HNE.out (er := fe) E.out)
    rw [results_cell_tmp rfl]; go_simp
  subst he
  replace E0 := Lib.hid (E0.out.trans (if_pos (by simp)))
  replace E0 := Lib.hid (E0.out.trans (if_neg (by simp)))
  obtain ⟨o0, o1, o2, o3, o4, o5, o6, of⟩ := cells7 HNS.out.drew.obj
  have hD1 := HNS.out.drew.dec.c1
  have hDf := frozen0 1 HNS.out.drew.dec
  have hDc0 := HNS.out.drew.dec.c0
  have how := obWords_in HO.out
  have hw0 := how.1
  have hw1 := how.2
  have HNP := Lib.hid (HNS.out.drew)
  have hs1 : IntKind.i64.wrap (1 + obWords o) = 1 + obWords o := IntWalk.i64_in _ (by omega)
  have hs2 : IntKind.i64.wrap (paid + (1 + obWords o)) = paid + (1 + obWords o) := IntWalk.i64_in _ (by omega)
  clear how
  go_wp2
  refine region_ord [0, 1, 2, 3, 4, 5, 6, 7, 8, 9, 10] [5, 10] [3, 4] [10] rfl (by kernel_rfl) ?_
  iterate 3
    refine ord_pure rfl rfl rfl rfl rfl (fun _ _ _ _ h => h) ?_ ?_ ?_ ?_ ?_
    rotate_left 2
    · intro w'; go_simp; with_reducible rfl
    · simp only [Act.put, List.setIfInBounds_toArray, List.set_cons_zero, List.set_cons_succ]; rfl
  refine ord_read rfl rfl rfl rfl rfl (fun _ _ _ _ h => h) ?_ ?_ ?_ ?_ ?_
  rotate_left 2
  · intro w' hg; have q := hg.cell hD1 (fun h => h); go_simp; with_reducible rfl
  · simp only [Act.put, List.setIfInBounds_toArray, List.set_cons_zero, List.set_cons_succ]; rfl
  refine ord_read rfl rfl rfl rfl rfl (fun _ _ _ _ h => h) ?_ ?_ ?_ ?_ ?_
  rotate_left 2
  · intro w' hg; have q0 := hg.cell o0 (fun h => h); have q1 := hg.cell o1 (fun h => h); have q2 := hg.cell o2 (fun h => h); have q3 := hg.cell o3 (fun h => h); have q4 := hg.cell o4 (fun h => h); have q5 := hg.cell o5 (fun h => h); have q6 := hg.cell o6 (fun h => h); go_simp; with_reducible rfl
  · simp only [Act.put, List.setIfInBounds_toArray, List.set_cons_zero, List.set_cons_succ]; rfl
  refine ord_call rfl rfl rfl rfl rfl Tryz.func264 rfl rfl [.agg #[.int .i64 o.kind, .int .i64 o.seg, .int .i64 o.at_, .int .i64 o.data, .int .i64 o.ptrs, .int .i64 o.size, .int .i64 o.count]] rfl ?_
  refine (rwords_calls o _ HO.out.ok).mono ?_
  rintro e w2 ⟨rfl, hg2⟩
  refine ⟨_, rfl, fun _ => hg2, ?_⟩
  have HNQ := Lib.hid (HNP.out.grow hg2)
  have hD1' := HNQ.out.dec.c1
  have hDf' := frozen0 1 HNQ.out.dec
  clear hg2 o0 o1 o2 o3 o4 o5 o6 of hD1 hDf hDc0
  simp only [Act.put, List.setIfInBounds_toArray, List.set_cons_zero, List.set_cons_succ]
  iterate 4
    refine ord_pure rfl rfl rfl rfl rfl (fun _ _ _ _ h => h) ?_ ?_ ?_ ?_ ?_
    rotate_left 2
    · intro w'; go_simp; with_reducible rfl
    · simp only [Act.put, List.setIfInBounds_toArray, List.set_cons_zero, List.set_cons_succ]; rfl
  refine ord_put rfl rfl rfl rfl ?_ ?_ (fun h => absurd (by simp) h) ?_
  rotate_left
  · go_simp; with_reducible rfl
  refine ord_nil ?_
  replace HNS := Lib.hid (HNQ.out.pay (paid + (1 + obWords o)))
  clear HNP HNQ hD1' hDf' hs1 hs2
  generalize w2.setCell ⟨D, 1, none⟩ (.int .i64 (paid + (1 + obWords o))) = cw at HNS ⊢
  obtain ⟨o0, o1, o2, o3, o4, o5, o6, of⟩ := cells7 HNS.out.obj
  have hl0 : ((l : Int) + 1 == 0) = false := beq_eq_false_iff_ne.2 (by omega)
  have hD1 := HNS.out.dec.c1
  by_cases hp : 8192 < paid + (1 + obWords o)
  · have E := Lib.hid (E0.out.trans (if_pos hp))
    have eb : (o.kind != 0) = true := by have := HKZ.out; simp [this]
    obtain ⟨n0, n1, n2, n3, n4, nf⟩ := cells5 HNS.out.nod
    have HNE := Lib.hid (HNS.out.all (.int .i64 0) (.int .i64 0) (.slice none 0 0) (.slice none 0 0) (.slice none 0 0))
    go_wp2
    (try simp only [Exit.inBlock, Exit.then])
    obtain ⟨r0, r1, r2, r3, r4, rf⟩ := cells5 HNE.out.nod
    refine bodyPost_ret (v := .tuple #[.agg #[.int .i64 0, .int .i64 0, .slice none 0 0, .slice none 0 0, .slice none 0 0], .int .u16 22]) ?_ rfl (npost_fail HNE.out (er := 22) E.out)
    rw [results_cell_tmp rfl]; go_simp
  replace E0 := Lib.hid (E0.out.trans (if_neg hp))
  have hpp : paid + (1 + obWords o) ≤ 8192 := by omega
  clear hp
  have da0 : 0 ≤ o.data := HO.out.ok.d.1
  have da1 : o.data ≤ 65535 := HO.out.ok.d.2
  have at0 : 0 ≤ o.at_ := HO.out.at0
  have pt0 : 0 ≤ o.ptrs := HO.out.ok.q.1
  have pt1 : o.ptrs ≤ 65535 := HO.out.ok.q.2
  have ct0 : 0 ≤ o.count := HO.out.ok.c.1
  have hcs := HO.out.cases
  have hsz := HC.out
  have hc2 : o.kind = 2 ∧ o.data = 0 ∧ o.ptrs = 0 ∧ o.at_ + (o.count + 7) / 8 ≤ 100000 := by
    rcases hcs with h | h | h
    · rw [h] at hsz; simp [ob0] at hsz
    · omega
    · omega
  have at1 : o.at_ ≤ 100000 := by omega
  have ct1 : o.count ≤ 800000 := by omega
  have hpt : o.ptrs ≤ 0 := by omega
  have hdt0 : o.data.toNat ≤ 1000000 := by omega
  have Hc2 := Lib.hid hc2
  clear hc2
  have hz2 : (o.size == 2) = true := by simp [hsz]
  have hz5 : (o.size == 5) = false := by simp [hsz]
  have hz6 : (o.size == 6) = false := by simp [hsz]
  have eb : (o.kind != 0) = true := by have := HKZ.out; simp [this]
  clear hcs hsz
  obtain ⟨n0, n1, n2, n3, n4, nf⟩ := cells5 HNS.out.nod
  go_wp2
  go_region
  replace HNS := Lib.hid (((HNS.out.put 0 (.int .i64 o.kind) _ _ _ _ _ (by omega) rfl).put 1 (.int .i64 o.size) _ _ _ _ _ (by omega) rfl).drew)
  clear o0 o1 o2 o3 o4 o5 o6 of n0 n1 n2 n3 n4 nf hD1
  generalize ((cw.setCell ⟨w.heap.size, 0, none⟩ (.int .i64 o.kind)).setCell ⟨w.heap.size, 1, none⟩ (.int .i64 o.size)).drew = cv at HNS ⊢
  obtain ⟨o0, o1, o2, o3, o4, o5, o6, of⟩ := cells7 HNS.out.obj
  have hs3 : IntKind.i64.wrap (o.at_ + o.data) = o.at_ + o.data := IntWalk.i64_in _ (by omega)
  go_wp2
  go_region
  replace HNS := Lib.hid HNS.out.drew
  clear o0 o1 o2 o3 o4 o5 o6 of hs3
  generalize cv.drew = cu at HNS ⊢
  obtain ⟨o0, o1, o2, o3, o4, o5, o6, of⟩ := cells7 HNS.out.obj
  have hO1 : w1.heap.size + 1 ≤ cu.heap.size := (Array.getElem?_eq_some_iff.1 HNS.out.obj).1
  have hNO : w.heap.size < w1.heap.size := HNS.out.lo.2.2.2
  have hNOn : w.heap.size ≠ w1.heap.size := by omega
  go_wp2_with fail
  refine (dwords_int HNS.out.dec (HS0.out.grow HNS.out.base) o.seg o.at_ o.data da0 at0 (by omega)).mono ?_
  rintro e w3 ⟨A1, c1, rfl, hg, ho1⟩
  replace HNS := Lib.hid (HNS.out.grow hg)
  have HW := Lib.hid (own_le ho1 hO1)
  clear hg ho1 o0 o1 o2 o3 o4 o5 o6 of hO1
  obtain ⟨o0, o1, o2, o3, o4, o5, o6, of⟩ := cells7 HNS.out.obj
  obtain ⟨n0, n1, n2, n3, n4, nf⟩ := cells5 HNS.out.nod
  go_wp2_with fail
  replace HNS := Lib.hid (HNS.out.put 2 (.slice A1 (wordsP wd o.seg o.at_ o.data.toNat).length c1) _ _ _ _ _ (by omega) rfl)
  replace HW := Lib.hid (own_put HW.out (N := w.heap.size) (by omega) 2 (.slice A1 (wordsP wd o.seg o.at_ o.data.toNat).length c1))
  generalize w3.setCell ⟨w.heap.size, 2, none⟩ (.slice A1 (wordsP wd o.seg o.at_ o.data.toNat).length c1) = c3 at HNS HW ⊢
  clear o0 o1 o2 o3 o4 o5 o6 of n0 n1 n2 n3 n4 nf
  obtain ⟨o0, o1, o2, o3, o4, o5, o6, of⟩ := cells7 HNS.out.obj
  obtain ⟨n0, n1, n2, n3, n4, nf⟩ := cells5 HNS.out.nod
  have hO1 : w1.heap.size + 1 ≤ c3.heap.size := (Array.getElem?_eq_some_iff.1 HNS.out.obj).1
  refine (dbytes_int HNS.out.dec (HS0.out.grow HNS.out.base) HSO.out.val o.seg o.at_ o.count ct0 at0 (by omega) (by omega)).mono ?_
  rintro e w4 ⟨A2, c2b, rfl, hg, ho2⟩
  replace HNS := Lib.hid (HNS.out.grow hg)
  replace HW := Lib.hid (own_keep HW.out hg (fun _ _ h => h))
  have HV0 := Lib.hid (own_le ho2 hO1)
  clear hg ho2 o0 o1 o2 o3 o4 o5 o6 of n0 n1 n2 n3 n4 nf hO1
  obtain ⟨n0, n1, n2, n3, n4, nf⟩ := cells5 HNS.out.nod
  go_wp2
  replace HNS := Lib.hid (HNS.out.put 3 (.slice A2 (bytesP wd o.seg o.at_ o.count.toNat).length c2b) _ _ _ _ _ (by omega) rfl)
  replace HW := Lib.hid (own_put HW.out (N := w.heap.size) (by omega) 3 (.slice A2 (bytesP wd o.seg o.at_ o.count.toNat).length c2b))
  have HV := Lib.hid (own_put HV0.out (N := w.heap.size) (by omega) 3 (.slice A2 (bytesP wd o.seg o.at_ o.count.toNat).length c2b))
  generalize w4.setCell ⟨w.heap.size, 3, none⟩ (.slice A2 (bytesP wd o.seg o.at_ o.count.toNat).length c2b) = c2 at HNS HW HV ⊢
  have hn0 : (if o.size = 6 then o.count else o.ptrs).toNat = 0 := by rw [HC.out]; have := Hc2.out.2.2.1; simp; omega
  clear n0 n1 n2 n3 n4 nf
  have hdt : o.data.toNat ≤ 1000000 := hdt0
  have E := Lib.hid (E0.out.trans (nodeT_done (ws := wordsP wd o.seg o.at_ o.data.toNat) (bs := bytesP wd o.seg o.at_ o.count.toNat) (at0 := o.at_ + o.data) (n := 0) (by rw [HC.out]; rfl) (by rw [HC.out]; rfl) (by rw [HC.out]; rfl) hn0 rfl))
  clear hn0
  go_loopw [109] (fun v wr => wr = c2 ∧ v = .int .i64 0) (fun v _ => 0)
  case atStart => exact ⟨rfl, rfl⟩
  case round =>
    obtain ⟨rfl, rfl⟩ := hrel
    obtain ⟨n0, n1, n2, n3, n4, nf⟩ := cells5 HNS.out.nod
    have HNE := Lib.hid (HNS.out.all (.int .i64 o.kind) (.int .i64 o.size) (.slice A1 (wordsP wd o.seg o.at_ o.data.toNat).length c1) (.slice A2 (bytesP wd o.seg o.at_ o.count.toNat).length c2b) (.slice none 0 0))
    go_wp2
    (try simp only [Exit.inBlock, Exit.then])
    obtain ⟨r0, r1, r2, r3, r4, rf⟩ := cells5 HNE.out.nod
    refine bodyPost_ret (v := .tuple #[.agg #[.int .i64 o.kind, .int .i64 o.size, .slice A1 (wordsP wd o.seg o.at_ o.data.toNat).length c1, .slice A2 (bytesP wd o.seg o.at_ o.count.toNat).length c2b, .slice none 0 0], .int .u16 0]) ?_ rfl ((KL.begin (bs := bytesP wd o.seg o.at_ o.count.toNat) (at0 := o.at_ + o.data) (f := (nodeP sz wd l o.seg)) HNS.out HW.out HV.out).post HNE.out (keepN5 _ _ _ _ _) E.out (by rw [wordsP_length]; omega) (by rw [bytesP_length]; omega) (by omega))
    rw [results_cell_tmp rfl]; go_simp
end Go.Proofs.YtfkcpaahdlkcdaaGreat
set_option linter.unusedSimpArgs false
set_option linter.unusedVariables false
namespace Go.Proofs.YtfkcpaahdlkcdaaGreat
open Go.RowKit

set_option maxRecDepth 100000 in
set_option maxHeartbeats 4000000 in
theorem node_s5 {sz : List Int} {wd : Int → Int → Int × Int} (ho : SouOk sz wd) {l : Nat} (IH : Hid (NodeAt sz wd l)) (hll : l ≤ 1000) (sv : Value) (W0 : World) (D : Nat) (paid seg at_ : Int) (w : World) (hS : Sou sv sz wd W0) (hD : Dec D sv paid w) (hD0 : W0.heap.size ≤ D) (hg : Grow W0 w) (p0 : 0 ≤ paid) (p1 : paid ≤ 8192) (hcase : (followP sz wd seg at_).1.size = 5) (hkz : (followP sz wd seg at_).1.kind ≠ 0) :
    Calls Tryz.prog 244 #[.pointer (some ⟨D, 0, none⟩), .int .i64 seg, .int .i64 at_, .int .i64 (l + 1 : Nat)] w (NPost (nodeP sz wd (l + 1) seg at_ paid) D sv w) := by
  obtain ⟨T, pv, fw, fs, r, rfl, -⟩ := hS.out
  have HSO := Lib.hid ho
  have HS0 := Lib.hid hS
  have hg0 := (Keep.refl NoB w).alloc (.cells #[.int .i64 0, .int .i64 0, .slice none 0 0, .slice none 0 0, .slice none 0 0] 114)
  have HS := Lib.hid (hS.grow (hg.grow hg0))
  have dc0 := (hD.grow hg0).c0
  have HD := Lib.hid (And.intro hD (And.intro hD0 hg))
  have E0 : Hid (nodeP sz wd (l + 1) seg at_ paid = nodeS sz wd false (nodeP sz wd l) seg at_ paid) := Lib.hid rfl
  clear hS hD hD0 hg hg0 ho
  go_enter Tryz.func244, Tryz.ntmps244
  go_wp2_with fail
  refine (follow_calls HS.out HSO.out seg at_).mono ?_
  rintro e w1 ⟨rfl, hg1⟩
  have HO := Lib.hid (followP_in HSO.out seg at_)
  unfold nodeS at E0
  generalize (followP sz wd seg at_).1 = o at *
  generalize (followP sz wd seg at_).2 = fe at *
  have HNS := Lib.hid (ns_start (o := o) HD.out.1 HD.out.2.1 HD.out.2.2 hg1)
  clear hg1 dc0
  have HC := Lib.hid hcase
  have HKZ := Lib.hid hkz
  clear hcase hkz
  by_cases he : fe = 0
  case neg =>
    have eb : (fe != 0) = true := by simp [he]
    have E := Lib.hid (E0.out.trans (if_neg he))
    clear he
    obtain ⟨n0, n1, n2, n3, n4, nf⟩ := cells5 HNS.out.nod
    have HNE := Lib.hid (HNS.out.all (.int .i64 0) (.int .i64 0) (.slice none 0 0) (.slice none 0 0) (.slice none 0 0))
    go_wp2
    (try simp only [Exit.inBlock, Exit.then])
    obtain ⟨r0, r1, r2, r3, r4, rf⟩ := cells5 HNE.out.nod
    refine bodyPost_ret (v := .tuple #[.agg #[.int .i64 0, .int .i64 0, .slice none 0 0, .slice none 0 0, .slice none 0 0], .int .u16 fe]) ?_ rfl (npost_fail HNE.out (er := fe) E.out)
    rw [results_cell_tmp rfl]; go_simp
  subst he
  replace E0 := Lib.hid (E0.out.trans (if_pos (by simp)))
  replace E0 := Lib.hid (E0.out.trans (if_neg (by simp)))
  obtain ⟨o0, o1, o2, o3, o4, o5, o6, of⟩ := cells7 HNS.out.drew.obj
  have hD1 := HNS.out.drew.dec.c1
  have hDf := frozen0 1 HNS.out.drew.dec
  have hDc0 := HNS.out.drew.dec.c0
  have how := obWords_in HO.out
  have hw0 := how.1
  have hw1 := how.2
  have HNP := Lib.hid (HNS.out.drew)
  have hs1 : IntKind.i64.wrap (1 + obWords o) = 1 + obWords o := IntWalk.i64_in _ (by omega)
  have hs2 : IntKind.i64.wrap (paid + (1 + obWords o)) = paid + (1 + obWords o) := IntWalk.i64_in _ (by omega)
  clear how
  go_wp2
  refine region_ord [0, 1, 2, 3, 4, 5, 6, 7, 8, 9, 10] [5, 10] [3, 4] [10] rfl (by kernel_rfl) ?_
  iterate 3
    refine ord_pure rfl rfl rfl rfl rfl (fun _ _ _ _ h => h) ?_ ?_ ?_ ?_ ?_
    rotate_left 2
    · intro w'; go_simp; with_reducible rfl
    · simp only [Act.put, List.setIfInBounds_toArray, List.set_cons_zero, List.set_cons_succ]; rfl
  refine ord_read rfl rfl rfl rfl rfl (fun _ _ _ _ h => h) ?_ ?_ ?_ ?_ ?_
  rotate_left 2
  · intro w' hg; have q := hg.cell hD1 (fun h => h); go_simp; with_reducible rfl
  · simp only [Act.put, List.setIfInBounds_toArray, List.set_cons_zero, List.set_cons_succ]; rfl
  refine ord_read rfl rfl rfl rfl rfl (fun _ _ _ _ h => h) ?_ ?_ ?_ ?_ ?_
  rotate_left 2
  · intro w' hg; have q0 := hg.cell o0 (fun h => h); have q1 := hg.cell o1 (fun h => h); have q2 := hg.cell o2 (fun h => h); have q3 := hg.cell o3 (fun h => h); have q4 := hg.cell o4 (fun h => h); have q5 := hg.cell o5 (fun h => h); have q6 := hg.cell o6 (fun h => h); go_simp; with_reducible rfl
  · simp only [Act.put, List.setIfInBounds_toArray, List.set_cons_zero, List.set_cons_succ]; rfl
  refine ord_call rfl rfl rfl rfl rfl Tryz.func264 rfl rfl [.agg #[.int .i64 o.kind, .int .i64 o.seg, .int .i64 o.at_, .int .i64 o.data, .int .i64 o.ptrs, .int .i64 o.size, .int .i64 o.count]] rfl ?_
  refine (rwords_calls o _ HO.out.ok).mono ?_
  rintro e w2 ⟨rfl, hg2⟩
  refine ⟨_, rfl, fun _ => hg2, ?_⟩
  have HNQ := Lib.hid (HNP.out.grow hg2)
  have hD1' := HNQ.out.dec.c1
  have hDf' := frozen0 1 HNQ.out.dec
  clear hg2 o0 o1 o2 o3 o4 o5 o6 of hD1 hDf hDc0
  simp only [Act.put, List.setIfInBounds_toArray, List.set_cons_zero, List.set_cons_succ]
  iterate 4
    refine ord_pure rfl rfl rfl rfl rfl (fun _ _ _ _ h => h) ?_ ?_ ?_ ?_ ?_
    rotate_left 2
    · intro w'; go_simp; with_reducible rfl
    · simp only [Act.put, List.setIfInBounds_toArray, List.set_cons_zero, List.set_cons_succ]; rfl
  refine ord_put rfl rfl rfl rfl ?_ ?_ (fun h => absurd (by simp) h) ?_
  rotate_left
  · go_simp; with_reducible rfl
  refine ord_nil ?_
  replace HNS := Lib.hid (HNQ.out.pay (paid + (1 + obWords o)))
  clear HNP HNQ hD1' hDf' hs1 hs2
  generalize w2.setCell ⟨D, 1, none⟩ (.int .i64 (paid + (1 + obWords o))) = cw at HNS ⊢
  obtain ⟨o0, o1, o2, o3, o4, o5, o6, of⟩ := cells7 HNS.out.obj
  have hl0 : ((l : Int) + 1 == 0) = false := beq_eq_false_iff_ne.2 (by omega)
  have hD1 := HNS.out.dec.c1
  by_cases hp : 8192 < paid + (1 + obWords o)
  · have E := Lib.hid (E0.out.trans (if_pos hp))
    have eb : (o.kind != 0) = true := by have := HKZ.out; simp [this]
    obtain ⟨n0, n1, n2, n3, n4, nf⟩ := cells5 HNS.out.nod
    have HNE := Lib.hid (HNS.out.all (.int .i64 0) (.int .i64 0) (.slice none 0 0) (.slice none 0 0) (.slice none 0 0))
    go_wp2
    (try simp only [Exit.inBlock, Exit.then])
    obtain ⟨r0, r1, r2, r3, r4, rf⟩ := cells5 HNE.out.nod
    refine bodyPost_ret (v := .tuple #[.agg #[.int .i64 0, .int .i64 0, .slice none 0 0, .slice none 0 0, .slice none 0 0], .int .u16 22]) ?_ rfl (npost_fail HNE.out (er := 22) E.out)
    rw [results_cell_tmp rfl]; go_simp
  replace E0 := Lib.hid (E0.out.trans (if_neg hp))
  have hpp : paid + (1 + obWords o) ≤ 8192 := by omega
  clear hp
  have da0 : 0 ≤ o.data := HO.out.ok.d.1
  have da1 : o.data ≤ 65535 := HO.out.ok.d.2
  have at0 : 0 ≤ o.at_ := HO.out.at0
  have pt0 : 0 ≤ o.ptrs := HO.out.ok.q.1
  have pt1 : o.ptrs ≤ 65535 := HO.out.ok.q.2
  have ct0 : 0 ≤ o.count := HO.out.ok.c.1
  have hcs := HO.out.cases
  have hsz := HC.out
  have hc2 : o.kind = 2 ∧ o.data = 0 ∧ o.ptrs = 0 ∧ o.at_ + o.count ≤ 100000 := by
    rcases hcs with h | h | h
    · rw [h] at hsz; simp [ob0] at hsz
    · omega
    · omega
  have at1 : o.at_ ≤ 100000 := by omega
  have ct1 : o.count ≤ 100000 := by omega
  have hpt : o.ptrs ≤ 0 := by omega
  have hdt0 : o.data.toNat ≤ 1000000 := by omega
  have Hc2 := Lib.hid hc2
  clear hc2
  have hz2 : (o.size == 2) = false := by simp [hsz]
  have hz5 : (o.size == 5) = true := by simp [hsz]
  have hz6 : (o.size == 6) = false := by simp [hsz]
  have eb : (o.kind != 0) = true := by have := HKZ.out; simp [this]
  clear hcs hsz
  obtain ⟨n0, n1, n2, n3, n4, nf⟩ := cells5 HNS.out.nod
  go_wp2
  go_region
  replace HNS := Lib.hid (((HNS.out.put 0 (.int .i64 o.kind) _ _ _ _ _ (by omega) rfl).put 1 (.int .i64 o.size) _ _ _ _ _ (by omega) rfl).drew)
  clear o0 o1 o2 o3 o4 o5 o6 of n0 n1 n2 n3 n4 nf hD1
  generalize ((cw.setCell ⟨w.heap.size, 0, none⟩ (.int .i64 o.kind)).setCell ⟨w.heap.size, 1, none⟩ (.int .i64 o.size)).drew = cv at HNS ⊢
  obtain ⟨o0, o1, o2, o3, o4, o5, o6, of⟩ := cells7 HNS.out.obj
  have hs3 : IntKind.i64.wrap (o.at_ + o.data) = o.at_ + o.data := IntWalk.i64_in _ (by omega)
  go_wp2
  go_region
  replace HNS := Lib.hid HNS.out.drew
  clear o0 o1 o2 o3 o4 o5 o6 of hs3
  generalize cv.drew = cu at HNS ⊢
  obtain ⟨o0, o1, o2, o3, o4, o5, o6, of⟩ := cells7 HNS.out.obj
  have hO1 : w1.heap.size + 1 ≤ cu.heap.size := (Array.getElem?_eq_some_iff.1 HNS.out.obj).1
  have hNO : w.heap.size < w1.heap.size := HNS.out.lo.2.2.2
  have hNOn : w.heap.size ≠ w1.heap.size := by omega
  go_wp2_with fail
  refine (dwords_int HNS.out.dec (HS0.out.grow HNS.out.base) o.seg o.at_ o.data da0 at0 (by omega)).mono ?_
  rintro e w3 ⟨A1, c1, rfl, hg, ho1⟩
  replace HNS := Lib.hid (HNS.out.grow hg)
  have HW := Lib.hid (own_le ho1 hO1)
  clear hg ho1 o0 o1 o2 o3 o4 o5 o6 of hO1
  obtain ⟨o0, o1, o2, o3, o4, o5, o6, of⟩ := cells7 HNS.out.obj
  obtain ⟨n0, n1, n2, n3, n4, nf⟩ := cells5 HNS.out.nod
  go_wp2_with fail
  replace HNS := Lib.hid (HNS.out.put 2 (.slice A1 (wordsP wd o.seg o.at_ o.data.toNat).length c1) _ _ _ _ _ (by omega) rfl)
  replace HW := Lib.hid (own_put HW.out (N := w.heap.size) (by omega) 2 (.slice A1 (wordsP wd o.seg o.at_ o.data.toNat).length c1))
  generalize w3.setCell ⟨w.heap.size, 2, none⟩ (.slice A1 (wordsP wd o.seg o.at_ o.data.toNat).length c1) = c3 at HNS HW ⊢
  clear o0 o1 o2 o3 o4 o5 o6 of n0 n1 n2 n3 n4 nf
  obtain ⟨o0, o1, o2, o3, o4, o5, o6, of⟩ := cells7 HNS.out.obj
  obtain ⟨n0, n1, n2, n3, n4, nf⟩ := cells5 HNS.out.nod
  have hO1 : w1.heap.size + 1 ≤ c3.heap.size := (Array.getElem?_eq_some_iff.1 HNS.out.obj).1
  refine (dwords_int HNS.out.dec (HS0.out.grow HNS.out.base) o.seg o.at_ o.count ct0 at0 (by omega)).mono ?_
  rintro e w4 ⟨A2, c2b, rfl, hg, ho2⟩
  replace HNS := Lib.hid (HNS.out.grow hg)
  have HW0 := Lib.hid (own_le ho2 hO1)
  clear hg ho2 HW o0 o1 o2 o3 o4 o5 o6 of n0 n1 n2 n3 n4 nf hO1
  obtain ⟨n0, n1, n2, n3, n4, nf⟩ := cells5 HNS.out.nod
  go_wp2
  replace HNS := Lib.hid (HNS.out.put 2 (.slice A2 (wordsP wd o.seg o.at_ o.count.toNat).length c2b) _ _ _ _ _ (by omega) rfl)
  have HW := Lib.hid (own_put HW0.out (N := w.heap.size) (by omega) 2 (.slice A2 (wordsP wd o.seg o.at_ o.count.toNat).length c2b))
  generalize w4.setCell ⟨w.heap.size, 2, none⟩ (.slice A2 (wordsP wd o.seg o.at_ o.count.toNat).length c2b) = c2 at HNS HW ⊢
  have HV := Lib.hid (World.ownsRow_nil c2 (w1.heap.size + 1) 5 1)
  have hn0 : (if o.size = 6 then o.count else o.ptrs).toNat = 0 := by rw [HC.out]; have := Hc2.out.2.2.1; simp; omega
  clear n0 n1 n2 n3 n4 nf
  have E := Lib.hid (E0.out.trans (nodeT_done (ws := wordsP wd o.seg o.at_ o.count.toNat) (bs := []) (at0 := o.at_ + o.data) (n := 0) (by rw [HC.out]; rfl) (by rw [HC.out]; rfl) (by rw [HC.out]; rfl) hn0 rfl))
  clear hn0
  go_loopw [109] (fun v wr => wr = c2 ∧ v = .int .i64 0) (fun v _ => 0)
  case atStart => exact ⟨rfl, rfl⟩
  case round =>
    obtain ⟨rfl, rfl⟩ := hrel
    obtain ⟨n0, n1, n2, n3, n4, nf⟩ := cells5 HNS.out.nod
    have HNE := Lib.hid (HNS.out.all (.int .i64 o.kind) (.int .i64 o.size) (.slice A2 (wordsP wd o.seg o.at_ o.count.toNat).length c2b) (.slice none 0 0) (.slice none 0 0))
    go_wp2
    (try simp only [Exit.inBlock, Exit.then])
    obtain ⟨r0, r1, r2, r3, r4, rf⟩ := cells5 HNE.out.nod
    refine bodyPost_ret (v := .tuple #[.agg #[.int .i64 o.kind, .int .i64 o.size, .slice A2 (wordsP wd o.seg o.at_ o.count.toNat).length c2b, .slice none 0 0, .slice none 0 0], .int .u16 0]) ?_ rfl ((KL.begin (bs := []) (at0 := o.at_ + o.data) (f := (nodeP sz wd l o.seg)) HNS.out HW.out HV.out).post HNE.out (keepN5 _ _ _ _ _) E.out (by rw [wordsP_length]; omega) (by simp) (by omega))
    rw [results_cell_tmp rfl]; go_simp
end Go.Proofs.YtfkcpaahdlkcdaaGreat
