import Derived.Test.YtfkcpaahdlkcdaaGreatRRecvQuota01
import Derived.Test.YtfkcpaahdlkcdaaGreatRRecvQuota04
import Derived.RangeFuncNested
import Derived.RangeFuncBound
import Derived.RangeFuncCalls
import Derived.RangeFuncLeaves
import Derived.Shelf.Abstract
import Derived.Shelf.RegionOpen
import Derived.WalkKit
import Derived.OwnWalkIn
import Derived.TacticsInMore
import Derived.LoopNIn
import Derived.LoopIn
import Derived.RangeFuncBox
import Derived.Maps.AppendAt
import Derived.OrdersIn
set_option linter.unusedSimpArgs false
set_option linter.unusedVariables false
set_option maxRecDepth 100000
set_option maxHeartbeats 16000000
namespace Go.Proofs.YtfkcpaahdlkcdaaGreat
open Go.RowKit
theorem node_s5 {sz : List Int} {wd : Int → Int → Int × Int} (ho : SouOk sz wd) {l : Nat} (IH : Hid (NodeAt sz wd l)) (hll : l ≤ 1000) (sv : Value) (W0 : World) (D : Nat) (paid seg at_ : Int) (w : World) (hS : Sou sv sz wd W0) (hD : Dec D sv paid w) (hD0 : W0.heap.size ≤ D) (hg : Grow W0 w) (p0 : 0 ≤ paid) (p1 : paid ≤ 8192) (hcase : (followP sz wd seg at_).1.size = 5) (hkz : (followP sz wd seg at_).1.kind ≠ 0) :
    Calls Tryz.prog 244 #[.pointer (some ⟨D, 0, none⟩), .int .i64 seg, .int .i64 at_, .int .i64 (l + 1 : Nat)] w (NPost (nodeP sz wd (l + 1) seg at_ paid) D sv w) := by
 obtain ⟨T, pv, fw, fs, r, rfl, -⟩ := hS.out
 have HSO := LH ho
 have HS0 := LH hS
 have hg0 := (Keep.refl NoB w).alloc (.cells #[.int .i64 0, .int .i64 0, .slice none 0 0, .slice none 0 0, .slice none 0 0] 114)
 have HS := LH (hS.grow (hg.grow hg0))
 have dc0 := (hD.grow hg0).c0
 have HD := LH (And.intro hD (And.intro hD0 hg))
 have E0 : Hid (nodeP sz wd (l + 1) seg at_ paid = nodeS sz wd false (nodeP sz wd l) seg at_ paid) := LH rfl
 clear hS hD hD0 hg hg0 ho
 go_enter Tryz.func244, Tryz.ntmps244
 go_wp2_with fail
 refine (follow_calls HS.out HSO.out seg at_).mono ?_
 rintro e w1 ⟨rfl, hg1⟩
 have HO := LH (followP_in HSO.out seg at_)
 unfold nodeS at E0
 generalize (followP sz wd seg at_).1 = o at *
 generalize (followP sz wd seg at_).2 = fe at *
 have HNS := LH (ns_start (o := o) HD.out.1 HD.out.2.1 HD.out.2.2 hg1)
 clear hg1 dc0
 have HC := LH hcase
 have HKZ := LH hkz
 clear hcase hkz
 by_cases he : fe = 0
 case neg =>
  have eb : (fe != 0) = true := by simp [he]
  have E := LH (E0.out.trans (if_neg he))
  clear he
  obtain ⟨n0, n1, n2, n3, n4, nf⟩ := cells5 HNS.out.nod
  have HNE := LH (HNS.out.all (.int .i64 0) (.int .i64 0) (.slice none 0 0) (.slice none 0 0) (.slice none 0 0))
  go_wp2
  (try simp only [Exit.inBlock, Exit.then])
  obtain ⟨r0, r1, r2, r3, r4, rf⟩ := cells5 HNE.out.nod
  refine bodyPost_ret (v := .tuple #[.agg #[.int .i64 0, .int .i64 0, .slice none 0 0, .slice none 0 0, .slice none 0 0], .int .u16 fe]) ?_ rfl (npost_fail HNE.out (er := fe) E.out)
  rw [results_cell_tmp rfl]; go_simp
 subst he
 replace E0 := LH (E0.out.trans (if_pos (by simp)))
 replace E0 := LH (E0.out.trans (if_neg (by simp)))
 obtain ⟨o0, o1, o2, o3, o4, o5, o6, of⟩ := cells7 HNS.out.drew.obj
 have hD1 := HNS.out.drew.dec.c1
 have hDf := frozen0 1 HNS.out.drew.dec
 have hDc0 := HNS.out.drew.dec.c0
 have how := obWords_in HO.out
 have hw0 := how.1
 have hw1 := how.2
 have HNP := LH (HNS.out.drew)
 have hs1 : IntKind.i64.wrap (1 + obWords o) = 1 + obWords o := IntWalk.i64_in _ (by omega)
 have hs2 : IntKind.i64.wrap (paid + (1 + obWords o)) = paid + (1 + obWords o) := IntWalk.i64_in _ (by omega)
 clear how
 go_wp2
 refine region_ord [0, 1, 2, 3, 4, 5, 6, 7, 8, 9, 10] [5, 10] [3, 4] [10] rfl (by kernel_rfl) ?_
 iterate 3
  refine ord_pure rfl rfl rfl rfl rfl (fun _ _ _ _ h => h) ?_ ?_ ?_ ?_ ?_
  rotate_left 2
  ·intro w'; go_simp; with_reducible rfl
  ·simp only [Act.put, pB, pC, pD]; rfl
 refine ord_read rfl rfl rfl rfl rfl (fun _ _ _ _ h => h) ?_ ?_ ?_ ?_ ?_
 rotate_left 2
 ·intro w' hg; have q := hg.cell hD1 (fun h => h); go_simp; with_reducible rfl
 ·simp only [Act.put, pB, pC, pD]; rfl
 refine ord_read rfl rfl rfl rfl rfl (fun _ _ _ _ h => h) ?_ ?_ ?_ ?_ ?_
 rotate_left 2
 ·intro w' hg; have q0 := hg.cell o0 (fun h => h); have q1 := hg.cell o1 (fun h => h); have q2 := hg.cell o2 (fun h => h); have q3 := hg.cell o3 (fun h => h); have q4 := hg.cell o4 (fun h => h); have q5 := hg.cell o5 (fun h => h); have q6 := hg.cell o6 (fun h => h); go_simp; with_reducible rfl
 ·simp only [Act.put, pB, pC, pD]; rfl
 refine ord_call rfl rfl rfl rfl rfl Tryz.func264 rfl rfl [.agg #[.int .i64 o.kind, .int .i64 o.seg, .int .i64 o.at_, .int .i64 o.data, .int .i64 o.ptrs, .int .i64 o.size, .int .i64 o.count]] rfl ?_
 refine (rwords_calls o _ HO.out.ok).mono ?_
 rintro e w2 ⟨rfl, hg2⟩
 refine ⟨_, rfl, fun _ => hg2, ?_⟩
 have HNQ := LH (HNP.out.grow hg2)
 have hD1' := HNQ.out.dec.c1
 have hDf' := frozen0 1 HNQ.out.dec
 clear hg2 o0 o1 o2 o3 o4 o5 o6 of hD1 hDf hDc0
 simp only [Act.put, pB, pC, pD]
 iterate 4
  refine ord_pure rfl rfl rfl rfl rfl (fun _ _ _ _ h => h) ?_ ?_ ?_ ?_ ?_
  rotate_left 2
  ·intro w'; go_simp; with_reducible rfl
  ·simp only [Act.put, pB, pC, pD]; rfl
 refine ord_put rfl rfl rfl rfl ?_ ?_ (fun h => absurd (by simp) h) ?_
 rotate_left
 ·go_simp; with_reducible rfl
 refine ord_nil ?_
 replace HNS := LH (HNQ.out.pay (paid + (1 + obWords o)))
 clear HNP HNQ hD1' hDf' hs1 hs2
 generalize w2.setCell ⟨D, 1, none⟩ (.int .i64 (paid + (1 + obWords o))) = cw at HNS ⊢
 obtain ⟨o0, o1, o2, o3, o4, o5, o6, of⟩ := cells7 HNS.out.obj
 have hl0 : ((l : Int) + 1 == 0) = false := beq_eq_false_iff_ne.2 (by omega)
 have hD1 := HNS.out.dec.c1
 by_cases hp : 8192 < paid + (1 + obWords o)
 ·have E := LH (E0.out.trans (if_pos hp))
  have eb : (o.kind != 0) = true := by have := HKZ.out; simp [this]
  obtain ⟨n0, n1, n2, n3, n4, nf⟩ := cells5 HNS.out.nod
  have HNE := LH (HNS.out.all (.int .i64 0) (.int .i64 0) (.slice none 0 0) (.slice none 0 0) (.slice none 0 0))
  go_wp2
  (try simp only [Exit.inBlock, Exit.then])
  obtain ⟨r0, r1, r2, r3, r4, rf⟩ := cells5 HNE.out.nod
  refine bodyPost_ret (v := .tuple #[.agg #[.int .i64 0, .int .i64 0, .slice none 0 0, .slice none 0 0, .slice none 0 0], .int .u16 22]) ?_ rfl (npost_fail HNE.out (er := 22) E.out)
  rw [results_cell_tmp rfl]; go_simp
 replace E0 := LH (E0.out.trans (if_neg hp))
 have hpp : paid + (1 + obWords o) ≤ 8192 := by omega
 clear hp
 have da0 : 0 ≤ o.data := HO.out.ok.d.1
 have da1 : o.data ≤ 65535 := HO.out.ok.d.2
 have at0 : 0 ≤ o.at_ := HO.out.at0
 have pt0 : 0 ≤ o.ptrs := HO.out.ok.q.1
 have pt1 : o.ptrs ≤ 65535 := HO.out.ok.q.2
 have ct0 : 0 ≤ o.count := HO.out.ok.c.1
 have hcs := HO.out.cases
 have hsz := HC.out
 have hc2 : o.kind = 2 ∧ o.data = 0 ∧ o.ptrs = 0 ∧ o.at_ + o.count ≤ 100000 := by
  rcases hcs with h | h | h
  ·rw [h] at hsz; simp [ob0] at hsz
  ·omega
  ·omega
 have at1 : o.at_ ≤ 100000 := by omega
 have ct1 : o.count ≤ 100000 := by omega
 have hpt : o.ptrs ≤ 0 := by omega
 have hdt0 : o.data.toNat ≤ 1000000 := by omega
 have Hc2 := LH hc2
 clear hc2
 have hz2 : (o.size == 2) = false := by simp [hsz]
 have hz5 : (o.size == 5) = true := by simp [hsz]
 have hz6 : (o.size == 6) = false := by simp [hsz]
 have eb : (o.kind != 0) = true := by have := HKZ.out; simp [this]
 clear hcs hsz
 obtain ⟨n0, n1, n2, n3, n4, nf⟩ := cells5 HNS.out.nod
 go_wp2
 go_region
 replace HNS := LH (((HNS.out.put 0 (.int .i64 o.kind) _ _ _ _ _ (by omega) rfl).put 1 (.int .i64 o.size) _ _ _ _ _ (by omega) rfl).drew)
 clear o0 o1 o2 o3 o4 o5 o6 of n0 n1 n2 n3 n4 nf hD1
 generalize ((cw.setCell ⟨w.heap.size, 0, none⟩ (.int .i64 o.kind)).setCell ⟨w.heap.size, 1, none⟩ (.int .i64 o.size)).drew = cv at HNS ⊢
 obtain ⟨o0, o1, o2, o3, o4, o5, o6, of⟩ := cells7 HNS.out.obj
 have hs3 : IntKind.i64.wrap (o.at_ + o.data) = o.at_ + o.data := IntWalk.i64_in _ (by omega)
 go_wp2
 go_region
 replace HNS := LH HNS.out.drew
 clear o0 o1 o2 o3 o4 o5 o6 of hs3
 generalize cv.drew = cu at HNS ⊢
 obtain ⟨o0, o1, o2, o3, o4, o5, o6, of⟩ := cells7 HNS.out.obj
 have hO1 : w1.heap.size + 1 ≤ cu.heap.size := (gE HNS.out.obj).1
 have hNO : w.heap.size < w1.heap.size := HNS.out.lo.2.2.2
 have hNOn : w.heap.size ≠ w1.heap.size := by omega
 go_wp2_with fail
 refine (dwords_int HNS.out.dec (HS0.out.grow HNS.out.base) o.seg o.at_ o.data da0 at0 (by omega)).mono ?_
 rintro e w3 ⟨A1, c1, rfl, hg, ho1⟩
 replace HNS := LH (HNS.out.grow hg)
 have HW := LH (own_le ho1 hO1)
 clear hg ho1 o0 o1 o2 o3 o4 o5 o6 of hO1
 obtain ⟨o0, o1, o2, o3, o4, o5, o6, of⟩ := cells7 HNS.out.obj
 obtain ⟨n0, n1, n2, n3, n4, nf⟩ := cells5 HNS.out.nod
 go_wp2_with fail
 replace HNS := LH (HNS.out.put 2 (.slice A1 (wordsP wd o.seg o.at_ o.data.toNat).length c1) _ _ _ _ _ (by omega) rfl)
 replace HW := LH (own_put HW.out (N := w.heap.size) (by omega) 2 (.slice A1 (wordsP wd o.seg o.at_ o.data.toNat).length c1))
 generalize w3.setCell ⟨w.heap.size, 2, none⟩ (.slice A1 (wordsP wd o.seg o.at_ o.data.toNat).length c1) = c3 at HNS HW ⊢
 clear o0 o1 o2 o3 o4 o5 o6 of n0 n1 n2 n3 n4 nf
 obtain ⟨o0, o1, o2, o3, o4, o5, o6, of⟩ := cells7 HNS.out.obj
 obtain ⟨n0, n1, n2, n3, n4, nf⟩ := cells5 HNS.out.nod
 have hO1 : w1.heap.size + 1 ≤ c3.heap.size := (gE HNS.out.obj).1
 refine (dwords_int HNS.out.dec (HS0.out.grow HNS.out.base) o.seg o.at_ o.count ct0 at0 (by omega)).mono ?_
 rintro e w4 ⟨A2, c2b, rfl, hg, ho2⟩
 replace HNS := LH (HNS.out.grow hg)
 have HW0 := LH (own_le ho2 hO1)
 clear hg ho2 HW o0 o1 o2 o3 o4 o5 o6 of n0 n1 n2 n3 n4 nf hO1
 obtain ⟨n0, n1, n2, n3, n4, nf⟩ := cells5 HNS.out.nod
 go_wp2
 replace HNS := LH (HNS.out.put 2 (.slice A2 (wordsP wd o.seg o.at_ o.count.toNat).length c2b) _ _ _ _ _ (by omega) rfl)
 have HW := LH (own_put HW0.out (N := w.heap.size) (by omega) 2 (.slice A2 (wordsP wd o.seg o.at_ o.count.toNat).length c2b))
 generalize w4.setCell ⟨w.heap.size, 2, none⟩ (.slice A2 (wordsP wd o.seg o.at_ o.count.toNat).length c2b) = c2 at HNS HW ⊢
 have HV := LH (World.ownsRow_nil c2 (w1.heap.size + 1) 5 1)
 have hn0 : (if o.size = 6 then o.count else o.ptrs).toNat = 0 := by rw [HC.out]; have := Hc2.out.2.2.1; simp; omega
 clear n0 n1 n2 n3 n4 nf
 have E := LH (E0.out.trans (nodeT_done (ws := wordsP wd o.seg o.at_ o.count.toNat) (bs := []) (at0 := o.at_ + o.data) (n := 0) (by rw [HC.out]; rfl) (by rw [HC.out]; rfl) (by rw [HC.out]; rfl) hn0 rfl))
 clear hn0
 go_loopw [109] (fun v wr => wr = c2 ∧ v = .int .i64 0) (fun v _ => 0)
 case atStart => exact ⟨rfl, rfl⟩
 case round =>
  obtain ⟨rfl, rfl⟩ := hrel
  obtain ⟨n0, n1, n2, n3, n4, nf⟩ := cells5 HNS.out.nod
  have HNE := LH (HNS.out.all (.int .i64 o.kind) (.int .i64 o.size) (.slice A2 (wordsP wd o.seg o.at_ o.count.toNat).length c2b) (.slice none 0 0) (.slice none 0 0))
  go_wp2
  (try simp only [Exit.inBlock, Exit.then])
  obtain ⟨r0, r1, r2, r3, r4, rf⟩ := cells5 HNE.out.nod
  refine bodyPost_ret (v := .tuple #[.agg #[.int .i64 o.kind, .int .i64 o.size, .slice A2 (wordsP wd o.seg o.at_ o.count.toNat).length c2b, .slice none 0 0, .slice none 0 0], .int .u16 0]) ?_ rfl ((KL.begin (bs := []) (at0 := o.at_ + o.data) (f := (nodeP sz wd l o.seg)) HNS.out HW.out HV.out).post HNE.out (keepN5 _ _ _ _ _) E.out (by rw [wordsP_length]; omega) (by simp) (by omega))
  rw [results_cell_tmp rfl]; go_simp
theorem node_s6 {sz : List Int} {wd : Int → Int → Int × Int} (ho : SouOk sz wd) {l : Nat} (IH : Hid (NodeAt sz wd l)) (hll : l ≤ 1000) (sv : Value) (W0 : World) (D : Nat) (paid seg at_ : Int) (w : World) (hS : Sou sv sz wd W0) (hD : Dec D sv paid w) (hD0 : W0.heap.size ≤ D) (hg : Grow W0 w) (p0 : 0 ≤ paid) (p1 : paid ≤ 8192) (hcase : (followP sz wd seg at_).1.size = 6) (hkz : (followP sz wd seg at_).1.kind ≠ 0) :
    Calls Tryz.prog 244 #[.pointer (some ⟨D, 0, none⟩), .int .i64 seg, .int .i64 at_, .int .i64 (l + 1 : Nat)] w (NPost (nodeP sz wd (l + 1) seg at_ paid) D sv w) := by
 obtain ⟨T, pv, fw, fs, r, rfl, -⟩ := hS.out
 have HSO := LH ho
 have HS0 := LH hS
 have hg0 := (Keep.refl NoB w).alloc (.cells #[.int .i64 0, .int .i64 0, .slice none 0 0, .slice none 0 0, .slice none 0 0] 114)
 have HS := LH (hS.grow (hg.grow hg0))
 have dc0 := (hD.grow hg0).c0
 have HD := LH (And.intro hD (And.intro hD0 hg))
 have E0 : Hid (nodeP sz wd (l + 1) seg at_ paid = nodeS sz wd false (nodeP sz wd l) seg at_ paid) := LH rfl
 clear hS hD hD0 hg hg0 ho
 go_enter Tryz.func244, Tryz.ntmps244
 go_wp2_with fail
 refine (follow_calls HS.out HSO.out seg at_).mono ?_
 rintro e w1 ⟨rfl, hg1⟩
 have HO := LH (followP_in HSO.out seg at_)
 unfold nodeS at E0
 generalize (followP sz wd seg at_).1 = o at *
 generalize (followP sz wd seg at_).2 = fe at *
 have HNS := LH (ns_start (o := o) HD.out.1 HD.out.2.1 HD.out.2.2 hg1)
 clear hg1 dc0
 have HC := LH hcase
 have HKZ := LH hkz
 clear hcase hkz
 by_cases he : fe = 0
 case neg =>
  have eb : (fe != 0) = true := by simp [he]
  have E := LH (E0.out.trans (if_neg he))
  clear he
  obtain ⟨n0, n1, n2, n3, n4, nf⟩ := cells5 HNS.out.nod
  have HNE := LH (HNS.out.all (.int .i64 0) (.int .i64 0) (.slice none 0 0) (.slice none 0 0) (.slice none 0 0))
  go_wp2
  (try simp only [Exit.inBlock, Exit.then])
  obtain ⟨r0, r1, r2, r3, r4, rf⟩ := cells5 HNE.out.nod
  refine bodyPost_ret (v := .tuple #[.agg #[.int .i64 0, .int .i64 0, .slice none 0 0, .slice none 0 0, .slice none 0 0], .int .u16 fe]) ?_ rfl (npost_fail HNE.out (er := fe) E.out)
  rw [results_cell_tmp rfl]; go_simp
 subst he
 replace E0 := LH (E0.out.trans (if_pos (by simp)))
 replace E0 := LH (E0.out.trans (if_neg (by simp)))
 obtain ⟨o0, o1, o2, o3, o4, o5, o6, of⟩ := cells7 HNS.out.drew.obj
 have hD1 := HNS.out.drew.dec.c1
 have hDf := frozen0 1 HNS.out.drew.dec
 have hDc0 := HNS.out.drew.dec.c0
 have how := obWords_in HO.out
 have hw0 := how.1
 have hw1 := how.2
 have HNP := LH (HNS.out.drew)
 have hs1 : IntKind.i64.wrap (1 + obWords o) = 1 + obWords o := IntWalk.i64_in _ (by omega)
 have hs2 : IntKind.i64.wrap (paid + (1 + obWords o)) = paid + (1 + obWords o) := IntWalk.i64_in _ (by omega)
 clear how
 go_wp2
 refine region_ord [0, 1, 2, 3, 4, 5, 6, 7, 8, 9, 10] [5, 10] [3, 4] [10] rfl (by kernel_rfl) ?_
 iterate 3
  refine ord_pure rfl rfl rfl rfl rfl (fun _ _ _ _ h => h) ?_ ?_ ?_ ?_ ?_
  rotate_left 2
  ·intro w'; go_simp; with_reducible rfl
  ·simp only [Act.put, pB, pC, pD]; rfl
 refine ord_read rfl rfl rfl rfl rfl (fun _ _ _ _ h => h) ?_ ?_ ?_ ?_ ?_
 rotate_left 2
 ·intro w' hg; have q := hg.cell hD1 (fun h => h); go_simp; with_reducible rfl
 ·simp only [Act.put, pB, pC, pD]; rfl
 refine ord_read rfl rfl rfl rfl rfl (fun _ _ _ _ h => h) ?_ ?_ ?_ ?_ ?_
 rotate_left 2
 ·intro w' hg; have q0 := hg.cell o0 (fun h => h); have q1 := hg.cell o1 (fun h => h); have q2 := hg.cell o2 (fun h => h); have q3 := hg.cell o3 (fun h => h); have q4 := hg.cell o4 (fun h => h); have q5 := hg.cell o5 (fun h => h); have q6 := hg.cell o6 (fun h => h); go_simp; with_reducible rfl
 ·simp only [Act.put, pB, pC, pD]; rfl
 refine ord_call rfl rfl rfl rfl rfl Tryz.func264 rfl rfl [.agg #[.int .i64 o.kind, .int .i64 o.seg, .int .i64 o.at_, .int .i64 o.data, .int .i64 o.ptrs, .int .i64 o.size, .int .i64 o.count]] rfl ?_
 refine (rwords_calls o _ HO.out.ok).mono ?_
 rintro e w2 ⟨rfl, hg2⟩
 refine ⟨_, rfl, fun _ => hg2, ?_⟩
 have HNQ := LH (HNP.out.grow hg2)
 have hD1' := HNQ.out.dec.c1
 have hDf' := frozen0 1 HNQ.out.dec
 clear hg2 o0 o1 o2 o3 o4 o5 o6 of hD1 hDf hDc0
 simp only [Act.put, pB, pC, pD]
 iterate 4
  refine ord_pure rfl rfl rfl rfl rfl (fun _ _ _ _ h => h) ?_ ?_ ?_ ?_ ?_
  rotate_left 2
  ·intro w'; go_simp; with_reducible rfl
  ·simp only [Act.put, pB, pC, pD]; rfl
 refine ord_put rfl rfl rfl rfl ?_ ?_ (fun h => absurd (by simp) h) ?_
 rotate_left
 ·go_simp; with_reducible rfl
 refine ord_nil ?_
 replace HNS := LH (HNQ.out.pay (paid + (1 + obWords o)))
 clear HNP HNQ hD1' hDf' hs1 hs2
 generalize w2.setCell ⟨D, 1, none⟩ (.int .i64 (paid + (1 + obWords o))) = cw at HNS ⊢
 obtain ⟨o0, o1, o2, o3, o4, o5, o6, of⟩ := cells7 HNS.out.obj
 have hl0 : ((l : Int) + 1 == 0) = false := beq_eq_false_iff_ne.2 (by omega)
 have hD1 := HNS.out.dec.c1
 by_cases hp : 8192 < paid + (1 + obWords o)
 ·have E := LH (E0.out.trans (if_pos hp))
  have eb : (o.kind != 0) = true := by have := HKZ.out; simp [this]
  obtain ⟨n0, n1, n2, n3, n4, nf⟩ := cells5 HNS.out.nod
  have HNE := LH (HNS.out.all (.int .i64 0) (.int .i64 0) (.slice none 0 0) (.slice none 0 0) (.slice none 0 0))
  go_wp2
  (try simp only [Exit.inBlock, Exit.then])
  obtain ⟨r0, r1, r2, r3, r4, rf⟩ := cells5 HNE.out.nod
  refine bodyPost_ret (v := .tuple #[.agg #[.int .i64 0, .int .i64 0, .slice none 0 0, .slice none 0 0, .slice none 0 0], .int .u16 22]) ?_ rfl (npost_fail HNE.out (er := 22) E.out)
  rw [results_cell_tmp rfl]; go_simp
 replace E0 := LH (E0.out.trans (if_neg hp))
 have hpp : paid + (1 + obWords o) ≤ 8192 := by omega
 clear hp
 have da0 : 0 ≤ o.data := HO.out.ok.d.1
 have da1 : o.data ≤ 65535 := HO.out.ok.d.2
 have at0 : 0 ≤ o.at_ := HO.out.at0
 have pt0 : 0 ≤ o.ptrs := HO.out.ok.q.1
 have pt1 : o.ptrs ≤ 65535 := HO.out.ok.q.2
 have ct0 : 0 ≤ o.count := HO.out.ok.c.1
 have hcs := HO.out.cases
 have hsz := HC.out
 have hc2 : o.kind = 2 ∧ o.data = 0 ∧ o.ptrs = 0 ∧ o.at_ + o.count ≤ 100000 := by
  rcases hcs with h | h | h
  ·rw [h] at hsz; simp [ob0] at hsz
  ·omega
  ·omega
 have at1 : o.at_ ≤ 100000 := by omega
 have ct1 : o.count ≤ 100000 := by omega
 have hpt : o.ptrs ≤ 0 := by omega
 have hdt0 : o.data.toNat ≤ 1000000 := by omega
 have Hc2 := LH hc2
 clear hc2
 have hz2 : (o.size == 2) = false := by simp [hsz]
 have hz5 : (o.size == 5) = false := by simp [hsz]
 have hz6 : (o.size == 6) = true := by simp [hsz]
 have eb : (o.kind != 0) = true := by have := HKZ.out; simp [this]
 clear hcs hsz
 obtain ⟨n0, n1, n2, n3, n4, nf⟩ := cells5 HNS.out.nod
 go_wp2
 go_region
 replace HNS := LH (((HNS.out.put 0 (.int .i64 o.kind) _ _ _ _ _ (by omega) rfl).put 1 (.int .i64 o.size) _ _ _ _ _ (by omega) rfl).drew)
 clear o0 o1 o2 o3 o4 o5 o6 of n0 n1 n2 n3 n4 nf hD1
 generalize ((cw.setCell ⟨w.heap.size, 0, none⟩ (.int .i64 o.kind)).setCell ⟨w.heap.size, 1, none⟩ (.int .i64 o.size)).drew = cv at HNS ⊢
 obtain ⟨o0, o1, o2, o3, o4, o5, o6, of⟩ := cells7 HNS.out.obj
 have hs3 : IntKind.i64.wrap (o.at_ + o.data) = o.at_ + o.data := IntWalk.i64_in _ (by omega)
 go_wp2
 go_region
 replace HNS := LH HNS.out.drew
 clear o0 o1 o2 o3 o4 o5 o6 of hs3
 generalize cv.drew = cu at HNS ⊢
 obtain ⟨o0, o1, o2, o3, o4, o5, o6, of⟩ := cells7 HNS.out.obj
 have hO1 : w1.heap.size + 1 ≤ cu.heap.size := (gE HNS.out.obj).1
 have hNO : w.heap.size < w1.heap.size := HNS.out.lo.2.2.2
 have hNOn : w.heap.size ≠ w1.heap.size := by omega
 go_wp2_with fail
 refine (dwords_int HNS.out.dec (HS0.out.grow HNS.out.base) o.seg o.at_ o.data da0 at0 (by omega)).mono ?_
 rintro e w3 ⟨A1, c1, rfl, hg, ho1⟩
 replace HNS := LH (HNS.out.grow hg)
 have HW := LH (own_le ho1 hO1)
 clear hg ho1 o0 o1 o2 o3 o4 o5 o6 of hO1
 obtain ⟨o0, o1, o2, o3, o4, o5, o6, of⟩ := cells7 HNS.out.obj
 obtain ⟨n0, n1, n2, n3, n4, nf⟩ := cells5 HNS.out.nod
 go_wp2
 replace HNS := LH (HNS.out.put 2 (.slice A1 (wordsP wd o.seg o.at_ o.data.toNat).length c1) _ _ _ _ _ (by omega) rfl)
 replace HW := LH (own_put HW.out (N := w.heap.size) (by omega) 2 (.slice A1 (wordsP wd o.seg o.at_ o.data.toNat).length c1))
 generalize w3.setCell ⟨w.heap.size, 2, none⟩ (.slice A1 (wordsP wd o.seg o.at_ o.data.toNat).length c1) = c3 at HNS HW ⊢
 clear o0 o1 o2 o3 o4 o5 o6 of n0 n1 n2 n3 n4 nf
 obtain ⟨o0, o1, o2, o3, o4, o5, o6, of⟩ := cells7 HNS.out.obj
 go_region
 replace HNS := LH HNS.out.drew
 replace HW := LH (own_keep HW.out (Keep.refl NoB c3).drew (fun _ _ h => h))
 clear o0 o1 o2 o3 o4 o5 o6 of
 generalize c3.drew = c2 at HNS HW ⊢
 have HV := LH (World.ownsRow_nil c2 (w1.heap.size + 1) 5 1)
 go_wp2
 have HK0 := LH (KL.begin (bs := []) (at0 := o.at_) (f := nodeP sz wd l o.seg) HNS.out HW.out HV.out)
 clear HNS HW HV
 go_loopw [109] (fun v wr => ∃ (k : Nat), k ≤ (o.count).toNat ∧ v = .int .i64 k ∧ ∃ A4 c4 rows, Hid (KL W0 w D w.heap.size w1.heap.size (.iface T pv) o (nodeP sz wd l o.seg) (o.at_) (paid + (1 + obWords o)) (wordsP wd o.seg o.at_ o.data.toNat) ([]) (.slice A1 (wordsP wd o.seg o.at_ o.data.toNat).length c1) (.slice none 0 0) k (.slice A4 k c4) rows wr)) (fun v _ => (o.count).toNat - (intOf v).toNat)
 case atStart => exact ⟨0, by omega, rfl, none, 0, [], HK0⟩
 case round =>
  clear HK0
  obtain ⟨k, hk, rfl, A4, c4, rows, HK⟩ := hrel
  obtain ⟨o0, o1, o2, o3, o4, o5, o6, of⟩ := cells7 HK.out.ns.obj
  obtain ⟨n0, n1, n2, n3, n4, nf⟩ := cells5 HK.out.ns.nod
  by_cases hlt : k < (o.count).toNat
  ·have hlt' : (k : Int) < o.count := by omega
   have hkk : (k : Int) ≤ 200000 := by omega
   have hw : IntKind.i64.wrap ((k : Int) + 1) = (k : Int) + 1 := IntWalk.i64_in _ (by omega)
   have hl1 : IntKind.i64.wrap ((l : Int) + 1 - 1) = l := by rw [show (l : Int) + 1 - 1 = l from by omega]; exact IntWalk.i64_in _ (by omega)
   have hpd := kidsK_paid (f := nodeP sz wd l o.seg) (at0 := o.at_) (nodeP_paid HSO.out l o.seg) (show 0 ≤ paid + (1 + obWords o) by omega) hpp k HK.out.ok
   have Hpd := LH hpd
   clear hpd
   go_wp2_with fail
   refine (IH.out (.iface T pv) W0 D (kidsK (nodeP sz wd l o.seg) (o.at_) (paid + (1 + obWords o)) k).2.2 o.seg (o.at_ + k) wr HS0.out HK.out.ns.dec HD.out.2.1 HK.out.ns.base Hpd.out.1 Hpd.out.2).mono ?_
   rintro e w4 ⟨xw, xb, xk, rfl, hdec, hkeep, hfoot, htrb⟩
   have Hsu : Hid (kidsK (nodeP sz wd l o.seg) (o.at_) (paid + (1 + obWords o)) (k + 1) = if (kidsK (nodeP sz wd l o.seg) (o.at_) (paid + (1 + obWords o)) k).2.1 = 0 then (if (nodeP sz wd l o.seg (o.at_ + k) (kidsK (nodeP sz wd l o.seg) (o.at_) (paid + (1 + obWords o)) k).2.2).2.1 = 0 then ((kidsK (nodeP sz wd l o.seg) (o.at_) (paid + (1 + obWords o)) k).1 ++ [(nodeP sz wd l o.seg (o.at_ + k) (kidsK (nodeP sz wd l o.seg) (o.at_) (paid + (1 + obWords o)) k).2.2).1], 0, (nodeP sz wd l o.seg (o.at_ + k) (kidsK (nodeP sz wd l o.seg) (o.at_) (paid + (1 + obWords o)) k).2.2).2.2) else ([], (nodeP sz wd l o.seg (o.at_ + k) (kidsK (nodeP sz wd l o.seg) (o.at_) (paid + (1 + obWords o)) k).2.2).2.1, (nodeP sz wd l o.seg (o.at_ + k) (kidsK (nodeP sz wd l o.seg) (o.at_) (paid + (1 + obWords o)) k).2.2).2.2)) else kidsK (nodeP sz wd l o.seg) (o.at_) (paid + (1 + obWords o)) k) := LH rfl
   have Hok := LH HK.out.ok
   obtain ⟨B1, d1, B2, d2, B3, d3, rfl, rfl, rfl⟩ := hfoot.now.parts
   have HM := LH (HK.out.called hdec hkeep hfoot)
   have Htb := LH htrb
   clear hdec hkeep hfoot htrb o0 o1 o2 o3 o4 o5 o6 of n0 n1 n2 n3 n4 nf
   generalize nodeP sz wd l o.seg (o.at_ + k) (kidsK (nodeP sz wd l o.seg) (o.at_) (paid + (1 + obWords o)) k).2.2 = r at *
   have hga := (Keep.refl NoB w4).alloc (.cells #[.int .i64 r.1.kind, .int .i64 r.1.size, .slice B1 r.1.ws.length d1, .slice B2 r.1.bs.length d2, .slice B3 r.1.kids.length d3] 114)
   have hna := heap_alloc_new w4 (.cells #[.int .i64 r.1.kind, .int .i64 r.1.size, .slice B1 r.1.ws.length d1, .slice B2 r.1.bs.length d2, .slice B3 r.1.kids.length d3] 114)
   replace HM := LH (HM.out.grow hga)
   have HNA := LH hna
   clear hga hna
   obtain ⟨t0, t1, t2, t3, t4, tf⟩ := cells5 HNA.out
   obtain ⟨n0, n1, n2, n3, n4, nf⟩ := cells5 HM.out.ns.nod
   by_cases her : r.2.1 = 0
   case neg =>
    have eb : (r.2.1 != 0) = true := by simp [her]
    have e1 : kidsK (nodeP sz wd l o.seg) (o.at_) (paid + (1 + obWords o)) (k + 1) = ([], r.2.1, r.2.2) := by rw [Hsu.out, if_pos Hok.out, if_neg her]
    have e2 : kidsK (nodeP sz wd l o.seg) (o.at_) (paid + (1 + obWords o)) (o.count).toNat = ([], r.2.1, r.2.2) := (kidsK_err _ _ _ (k := k + 1) (by rw [e1]; exact her) (by omega)).trans e1
    have E : Hid (nodeP sz wd (l + 1) seg at_ paid = (tr0, r.2.1, r.2.2)) := LH (E0.out.trans ((nodeT_fail (at0 := o.at_) (n := (o.count).toNat) (by rw [HC.out]; rfl) (by rw [HC.out]; rfl) (by rw [e2]; exact her)).trans (by rw [e2])))
    have HNS := LH HM.out.ns
    clear her e1 e2 n0 n1 n2 n3 n4 nf
    obtain ⟨n0, n1, n2, n3, n4, nf⟩ := cells5 HNS.out.nod
    have HNE := LH (HNS.out.all (.int .i64 0) (.int .i64 0) (.slice none 0 0) (.slice none 0 0) (.slice none 0 0))
    go_wp2
    (try simp only [Exit.inBlock, Exit.then])
    obtain ⟨r0, r1, r2, r3, r4, rf⟩ := cells5 HNE.out.nod
    refine bodyPost_ret (v := .tuple #[.agg #[.int .i64 0, .int .i64 0, .slice none 0 0, .slice none 0 0, .slice none 0 0], .int .u16 r.2.1]) ?_ rfl (npost_fail HNE.out (er := r.2.1) E.out)
    rw [results_cell_tmp rfl]; go_simp
   have eb : (r.2.1 != 0) = false := by simp [her]
   have e1 : kidsK (nodeP sz wd l o.seg) (o.at_) (paid + (1 + obWords o)) (k + 1) = ((kidsK (nodeP sz wd l o.seg) (o.at_) (paid + (1 + obWords o)) k).1 ++ [r.1], 0, r.2.2) := by rw [Hsu.out, if_pos Hok.out, if_pos her]
   have He1 := LH e1
   clear e1 her
   have HSRC : Hid (((w4.alloc (.cells #[.int .i64 r.1.kind, .int .i64 r.1.size, .slice B1 r.1.ws.length d1, .slice B2 r.1.bs.length d2, .slice B3 r.1.kids.length d3] 114)).alloc (.cells #[.int .i64 r.1.kind, .int .i64 r.1.size, .slice B1 r.1.ws.length d1, .slice B2 r.1.bs.length d2, .slice B3 r.1.kids.length d3] 114)).heap[w4.heap.size + 1]? = some (.cells #[.int .i64 r.1.kind, .int .i64 r.1.size, .slice B1 r.1.ws.length d1, .slice B2 r.1.bs.length d2, .slice B3 r.1.kids.length d3] 114)) := LH (by have := heap_alloc_new (w4.alloc (.cells #[.int .i64 r.1.kind, .int .i64 r.1.size, .slice B1 r.1.ws.length d1, .slice B2 r.1.bs.length d2, .slice B3 r.1.kids.length d3] 114)) (.cells #[.int .i64 r.1.kind, .int .i64 r.1.size, .slice B1 r.1.ws.length d1, .slice B2 r.1.bs.length d2, .slice B3 r.1.kids.length d3] 114); simpa using this)
   have HSZ : Hid (w1.heap.size + 1 ≤ ((w4.alloc (.cells #[.int .i64 r.1.kind, .int .i64 r.1.size, .slice B1 r.1.ws.length d1, .slice B2 r.1.bs.length d2, .slice B3 r.1.kids.length d3] 114)).alloc (.cells #[.int .i64 r.1.kind, .int .i64 r.1.size, .slice B1 r.1.ws.length d1, .slice B2 r.1.bs.length d2, .slice B3 r.1.kids.length d3] 114)).heap.size) := LH (by have := (gE HM.out.ns.obj).1; simp at this ⊢; omega)
   go_wp2_with (at_builtin; refine wpList_app _ rfl _ _ 112 112 rfl (w1.heap.size + 1) 114 (.agg #[.int .i64 0, .int .i64 0, .slice none 0 0, .slice none 0 0, .slice none 0 0]) 5 88 u_nodes info_node rfl (.slice A4 k c4) k (kcs rows) rfl (.slice (some ⟨w4.heap.size + 1, 0, none⟩) 1 1) 1 [.int .i64 r.1.kind, .int .i64 r.1.size, .slice B1 r.1.ws.length d1, .slice B2 r.1.bs.length d2, .slice B3 r.1.kids.length d3] rfl ?_ (by exact own_keep HM.out.own ((Keep.refl NoB _).alloc _) (fun _ _ h => h)) (by exact Src.ofSlice _ u_nodes ⟨w4.heap.size + 1, 0, none⟩ 1 1 _ rfl (World.news_of_block (cs := #[.int .i64 r.1.kind, .int .i64 r.1.size, .slice B1 r.1.ws.length d1, .slice B2 r.1.bs.length d2, .slice B3 r.1.kids.length d3]) (t := 114) (fr := (0, 0)) (by exact HSRC.out)) (by simp [Value.oneCell'])) (by simp only [maxLen]; omega) (by omega) (by exact HSZ.out); intro v5 w5 hap; refine Hid.out ?_)
   refine LH ?_
   replace HM := LH (HM.out.grow ((Keep.refl NoB _).alloc (.cells #[.int .i64 r.1.kind, .int .i64 r.1.size, .slice B1 r.1.ws.length d1, .slice B2 r.1.bs.length d2, .slice B3 r.1.kids.length d3] 114)))
   rw [show r.2.2 = (kidsK (nodeP sz wd l o.seg) (o.at_) (paid + (1 + obWords o)) (k + 1)).2.2 from by rw [He1.out]] at HM
   have hfin := HM.out.appended hap (by rw [He1.out]) (by rw [He1.out, List.map_append, HK.out.kids]; rfl) HK.out.len (fun x hx => by
    rcases List.mem_append.1 hx with e | e
    ·exact HK.out.trb x e
    ·rw [List.mem_singleton.1 e]; exact Htb.out)
   obtain ⟨A6, c6, rfl, _⟩ := own_slice hap.own
   have HF := LH hfin.1
   clear n0 n1 n2 n3 n4 nf t0 t1 t2 t3 t4 tf hap
   obtain ⟨n0, n1, n2, n3, n4, nf⟩ := cells5 hfin.2.nod
   clear hfin
   go_wp2
   go_roundw
   case rel => exact ⟨k + 1, by omega, by go_num, A6, c6, _, HF⟩
   case measure => simp [intOf]; omega
  ·obtain rfl : k = (o.count).toNat := by omega
   have hlt' : ¬ (((o.count).toNat : Int) < o.count) := by omega
   have hN : (o.count).toNat ≤ 1000000 := by omega
   have E : Hid (nodeP sz wd (l + 1) seg at_ paid = (.mk o.kind o.size (wordsP wd o.seg o.at_ o.data.toNat) ([]) (kidsK (nodeP sz wd l o.seg) (o.at_) (paid + (1 + obWords o)) (o.count).toNat).1, 0, (kidsK (nodeP sz wd l o.seg) (o.at_) (paid + (1 + obWords o)) (o.count).toNat).2.2)) := LH (E0.out.trans (nodeT_done (by rw [HC.out]; rfl) (by rw [HC.out]; rfl) (by rw [HC.out]; rfl) (by rw [HC.out]; rfl) HK.out.ok))
   have HNE := LH (HK.out.ns.all (.int .i64 o.kind) (.int .i64 o.size) (.slice A1 (wordsP wd o.seg o.at_ o.data.toNat).length c1) (.slice none 0 0) (.slice A4 (o.count).toNat c4))
   go_wp2
   (try simp only [Exit.inBlock, Exit.then])
   obtain ⟨r0, r1, r2, r3, r4, rf⟩ := cells5 HNE.out.nod
   refine bodyPost_ret (v := .tuple #[.agg #[.int .i64 o.kind, .int .i64 o.size, .slice A1 (wordsP wd o.seg o.at_ o.data.toNat).length c1, .slice none 0 0, .slice A4 (o.count).toNat c4], .int .u16 0]) ?_ rfl (HK.out.post HNE.out (keepN5 _ _ _ _ _) E.out (by rw [wordsP_length]; omega) (by first | simp | (rw [bytesP_length]; omega)) (by omega))
   rw [results_cell_tmp rfl]; go_simp
theorem node_null {sz : List Int} {wd : Int → Int → Int × Int} (ho : SouOk sz wd) {l : Nat} (sv : Value) (W0 : World) (D : Nat) (paid seg at_ : Int) (w : World) (hS : Sou sv sz wd W0) (hD : Dec D sv paid w) (hD0 : W0.heap.size ≤ D) (hg : Grow W0 w) (p0 : 0 ≤ paid) (p1 : paid ≤ 8192) (hkz : (followP sz wd seg at_).1.kind = 0) :
    Calls Tryz.prog 244 #[.pointer (some ⟨D, 0, none⟩), .int .i64 seg, .int .i64 at_, .int .i64 (l + 1 : Nat)] w (NPost (nodeP sz wd (l + 1) seg at_ paid) D sv w) := by
 obtain ⟨T, pv, fw, fs, r, rfl, -⟩ := hS.out
 have HSO := LH ho
 have HS0 := LH hS
 have hg0 := (Keep.refl NoB w).alloc (.cells #[.int .i64 0, .int .i64 0, .slice none 0 0, .slice none 0 0, .slice none 0 0] 114)
 have HS := LH (hS.grow (hg.grow hg0))
 have dc0 := (hD.grow hg0).c0
 have HD := LH (And.intro hD (And.intro hD0 hg))
 have E0 : Hid (nodeP sz wd (l + 1) seg at_ paid = nodeS sz wd false (nodeP sz wd l) seg at_ paid) := LH rfl
 clear hS hD hD0 hg hg0 ho
 go_enter Tryz.func244, Tryz.ntmps244
 go_wp2_with fail
 refine (follow_calls HS.out HSO.out seg at_).mono ?_
 rintro e w1 ⟨rfl, hg1⟩
 have HO := LH (followP_in HSO.out seg at_)
 unfold nodeS at E0
 generalize (followP sz wd seg at_).1 = o at *
 generalize (followP sz wd seg at_).2 = fe at *
 have HNS := LH (ns_start (o := o) HD.out.1 HD.out.2.1 HD.out.2.2 hg1)
 clear hg1 dc0
 have HKZ := LH hkz
 clear hkz
 by_cases he : fe = 0
 case neg =>
  have eb : (fe != 0) = true := by simp [he]
  have E := LH (E0.out.trans (if_neg he))
  clear he
  obtain ⟨n0, n1, n2, n3, n4, nf⟩ := cells5 HNS.out.nod
  have HNE := LH (HNS.out.all (.int .i64 0) (.int .i64 0) (.slice none 0 0) (.slice none 0 0) (.slice none 0 0))
  go_wp2
  (try simp only [Exit.inBlock, Exit.then])
  obtain ⟨r0, r1, r2, r3, r4, rf⟩ := cells5 HNE.out.nod
  refine bodyPost_ret (v := .tuple #[.agg #[.int .i64 0, .int .i64 0, .slice none 0 0, .slice none 0 0, .slice none 0 0], .int .u16 fe]) ?_ rfl (npost_fail HNE.out (er := fe) E.out)
  rw [results_cell_tmp rfl]; go_simp
 subst he
 replace E0 := LH (E0.out.trans (if_pos (by simp)))
 replace E0 := LH (E0.out.trans (if_neg (by simp)))
 obtain ⟨o0, o1, o2, o3, o4, o5, o6, of⟩ := cells7 HNS.out.drew.obj
 have hD1 := HNS.out.drew.dec.c1
 have hDf := frozen0 1 HNS.out.drew.dec
 have hDc0 := HNS.out.drew.dec.c0
 have how := obWords_in HO.out
 have hw0 := how.1
 have hw1 := how.2
 have HNP := LH (HNS.out.drew)
 have hs1 : IntKind.i64.wrap (1 + obWords o) = 1 + obWords o := IntWalk.i64_in _ (by omega)
 have hs2 : IntKind.i64.wrap (paid + (1 + obWords o)) = paid + (1 + obWords o) := IntWalk.i64_in _ (by omega)
 clear how
 go_wp2
 refine region_ord [0, 1, 2, 3, 4, 5, 6, 7, 8, 9, 10] [5, 10] [3, 4] [10] rfl (by kernel_rfl) ?_
 iterate 3
  refine ord_pure rfl rfl rfl rfl rfl (fun _ _ _ _ h => h) ?_ ?_ ?_ ?_ ?_
  rotate_left 2
  ·intro w'; go_simp; with_reducible rfl
  ·simp only [Act.put, pB, pC, pD]; rfl
 refine ord_read rfl rfl rfl rfl rfl (fun _ _ _ _ h => h) ?_ ?_ ?_ ?_ ?_
 rotate_left 2
 ·intro w' hg; have q := hg.cell hD1 (fun h => h); go_simp; with_reducible rfl
 ·simp only [Act.put, pB, pC, pD]; rfl
 refine ord_read rfl rfl rfl rfl rfl (fun _ _ _ _ h => h) ?_ ?_ ?_ ?_ ?_
 rotate_left 2
 ·intro w' hg; have q0 := hg.cell o0 (fun h => h); have q1 := hg.cell o1 (fun h => h); have q2 := hg.cell o2 (fun h => h); have q3 := hg.cell o3 (fun h => h); have q4 := hg.cell o4 (fun h => h); have q5 := hg.cell o5 (fun h => h); have q6 := hg.cell o6 (fun h => h); go_simp; with_reducible rfl
 ·simp only [Act.put, pB, pC, pD]; rfl
 refine ord_call rfl rfl rfl rfl rfl Tryz.func264 rfl rfl [.agg #[.int .i64 o.kind, .int .i64 o.seg, .int .i64 o.at_, .int .i64 o.data, .int .i64 o.ptrs, .int .i64 o.size, .int .i64 o.count]] rfl ?_
 refine (rwords_calls o _ HO.out.ok).mono ?_
 rintro e w2 ⟨rfl, hg2⟩
 refine ⟨_, rfl, fun _ => hg2, ?_⟩
 have HNQ := LH (HNP.out.grow hg2)
 have hD1' := HNQ.out.dec.c1
 have hDf' := frozen0 1 HNQ.out.dec
 clear hg2 o0 o1 o2 o3 o4 o5 o6 of hD1 hDf hDc0
 simp only [Act.put, pB, pC, pD]
 iterate 4
  refine ord_pure rfl rfl rfl rfl rfl (fun _ _ _ _ h => h) ?_ ?_ ?_ ?_ ?_
  rotate_left 2
  ·intro w'; go_simp; with_reducible rfl
  ·simp only [Act.put, pB, pC, pD]; rfl
 refine ord_put rfl rfl rfl rfl ?_ ?_ (fun h => absurd (by simp) h) ?_
 rotate_left
 ·go_simp; with_reducible rfl
 refine ord_nil ?_
 replace HNS := LH (HNQ.out.pay (paid + (1 + obWords o)))
 clear HNP HNQ hD1' hDf' hs1 hs2
 generalize w2.setCell ⟨D, 1, none⟩ (.int .i64 (paid + (1 + obWords o))) = cw at HNS ⊢
 obtain ⟨o0, o1, o2, o3, o4, o5, o6, of⟩ := cells7 HNS.out.obj
 have eb : (o.kind != 0) = false := by have := HKZ.out; simp [this]
 have hob : o = ob0 := by
  have hk := HKZ.out
  rcases HO.out.cases with h | h | h
  ·exact h
  ·have := h.1; omega
  ·have := h.1; omega
 have Hob := LH hob
 clear hob
 have hD1 := HNS.out.dec.c1
 by_cases hp : 8192 < paid + (1 + obWords o)
 ·have E := LH (E0.out.trans (if_pos hp))
  obtain ⟨n0, n1, n2, n3, n4, nf⟩ := cells5 HNS.out.nod
  have HNE := LH (HNS.out.all (.int .i64 0) (.int .i64 0) (.slice none 0 0) (.slice none 0 0) (.slice none 0 0))
  go_wp2
  (try simp only [Exit.inBlock, Exit.then])
  obtain ⟨r0, r1, r2, r3, r4, rf⟩ := cells5 HNE.out.nod
  refine bodyPost_ret (v := .tuple #[.agg #[.int .i64 0, .int .i64 0, .slice none 0 0, .slice none 0 0, .slice none 0 0], .int .u16 22]) ?_ rfl (npost_fail HNE.out (er := 22) E.out)
  rw [results_cell_tmp rfl]; go_simp
 replace E0 := LH (E0.out.trans (if_neg hp))
 have hpp : paid + (1 + obWords o) ≤ 8192 := by omega
 clear hp
 have da0 : 0 ≤ o.data := HO.out.ok.d.1
 have da1 : o.data ≤ 65535 := HO.out.ok.d.2
 have at0 : 0 ≤ o.at_ := HO.out.at0
 have at1 : o.at_ ≤ 100000 := by rw [Hob.out]; simp [ob0]
 have hz2 : (o.size == 2) = false := by rw [Hob.out]; rfl
 have hz5 : (o.size == 5) = false := by rw [Hob.out]; rfl
 have hz6 : (o.size == 6) = false := by rw [Hob.out]; rfl
 have hpt : o.ptrs ≤ 0 := by rw [Hob.out]; simp [ob0]
 have hdt : o.data.toNat ≤ 1000000 := by omega
 obtain ⟨n0, n1, n2, n3, n4, nf⟩ := cells5 HNS.out.nod
 go_wp2
 go_region
 replace HNS := LH (((HNS.out.put 0 (.int .i64 o.kind) _ _ _ _ _ (by omega) rfl).put 1 (.int .i64 o.size) _ _ _ _ _ (by omega) rfl).drew)
 clear o0 o1 o2 o3 o4 o5 o6 of n0 n1 n2 n3 n4 nf hD1
 generalize ((cw.setCell ⟨w.heap.size, 0, none⟩ (.int .i64 o.kind)).setCell ⟨w.heap.size, 1, none⟩ (.int .i64 o.size)).drew = cv at HNS ⊢
 obtain ⟨o0, o1, o2, o3, o4, o5, o6, of⟩ := cells7 HNS.out.obj
 have hs3 : IntKind.i64.wrap (o.at_ + o.data) = o.at_ + o.data := IntWalk.i64_in _ (by omega)
 go_wp2
 go_region
 replace HNS := LH HNS.out.drew
 clear o0 o1 o2 o3 o4 o5 o6 of hs3
 generalize cv.drew = cu at HNS ⊢
 obtain ⟨o0, o1, o2, o3, o4, o5, o6, of⟩ := cells7 HNS.out.obj
 have hO1 : w1.heap.size + 1 ≤ cu.heap.size := (gE HNS.out.obj).1
 have hNO : w.heap.size < w1.heap.size := HNS.out.lo.2.2.2
 have hNOn : w.heap.size ≠ w1.heap.size := by omega
 go_wp2_with fail
 refine (dwords_int HNS.out.dec (HS0.out.grow HNS.out.base) o.seg o.at_ o.data da0 at0 (by omega)).mono ?_
 rintro e w3 ⟨A1, c1, rfl, hg, ho1⟩
 replace HNS := LH (HNS.out.grow hg)
 have HW := LH (own_le ho1 hO1)
 clear hg ho1 o0 o1 o2 o3 o4 o5 o6 of hO1
 obtain ⟨o0, o1, o2, o3, o4, o5, o6, of⟩ := cells7 HNS.out.obj
 obtain ⟨n0, n1, n2, n3, n4, nf⟩ := cells5 HNS.out.nod
 go_wp2
 replace HNS := LH (HNS.out.put 2 (.slice A1 (wordsP wd o.seg o.at_ o.data.toNat).length c1) _ _ _ _ _ (by omega) rfl)
 replace HW := LH (own_put HW.out (N := w.heap.size) (by omega) 2 (.slice A1 (wordsP wd o.seg o.at_ o.data.toNat).length c1))
 generalize w3.setCell ⟨w.heap.size, 2, none⟩ (.slice A1 (wordsP wd o.seg o.at_ o.data.toNat).length c1) = c2 at HNS HW ⊢
 have HV := LH (World.ownsRow_nil c2 (w1.heap.size + 1) 5 1)
 have hn0 : (if o.size = 6 then o.count else o.ptrs).toNat = 0 := by rw [Hob.out]; rfl
 have E := LH (E0.out.trans (nodeT_done (ws := wordsP wd o.seg o.at_ o.data.toNat) (bs := []) (at0 := o.at_ + o.data) (n := 0) (by rw [Hob.out]; rfl) (by rw [Hob.out]; rfl) (by rw [Hob.out]; rfl) hn0 rfl))
 clear o0 o1 o2 o3 o4 o5 o6 of n0 n1 n2 n3 n4 nf hn0
 go_loopw [109] (fun v wr => wr = c2 ∧ v = .int .i64 0) (fun v _ => 0)
 case atStart => exact ⟨rfl, rfl⟩
 case round =>
  obtain ⟨rfl, rfl⟩ := hrel
  obtain ⟨n0, n1, n2, n3, n4, nf⟩ := cells5 HNS.out.nod
  have HNE := LH (HNS.out.all (.int .i64 o.kind) (.int .i64 o.size) (.slice A1 (wordsP wd o.seg o.at_ o.data.toNat).length c1) (.slice none 0 0) (.slice none 0 0))
  go_wp2
  (try simp only [Exit.inBlock, Exit.then])
  obtain ⟨r0, r1, r2, r3, r4, rf⟩ := cells5 HNE.out.nod
  refine bodyPost_ret (v := .tuple #[.agg #[.int .i64 o.kind, .int .i64 o.size, .slice A1 (wordsP wd o.seg o.at_ o.data.toNat).length c1, .slice none 0 0, .slice none 0 0], .int .u16 0]) ?_ rfl ((KL.begin (bs := []) (at0 := o.at_ + o.data) (f := (nodeP sz wd l o.seg)) HNS.out HW.out HV.out).post HNE.out (keepN5 _ _ _ _ _) E.out (by rw [wordsP_length]; omega) (by simp) (by omega))
  rw [results_cell_tmp rfl]; go_simp
theorem node_at {sz : List Int} {wd : Int → Int → Int × Int} (ho : SouOk sz wd) : ∀ l : Nat, l ≤ 1000 → NodeAt sz wd l
 | 0, _ => fun sv W0 D paid seg at_ w hS hD hD0 hg p0 p1 => node_zero ho sv W0 D paid seg at_ w hS hD hD0 hg p0 p1
 | l + 1, h => fun sv W0 D paid seg at_ w hS hD hD0 hg p0 p1 => by
  have ih := LH (node_at ho l (by omega))
  rcases (followP_in ho seg at_).cases with e | ⟨hk, hs, _⟩ | ⟨hk, _, _, hs⟩
  ·exact node_null ho sv W0 D paid seg at_ w hS hD hD0 hg p0 p1 (by rw [e]; rfl)
  ·exact node_s0 ho ih (by omega) sv W0 D paid seg at_ w hS hD hD0 hg p0 p1 hs (by omega)
  ·rcases hs with ⟨hs, _⟩ | ⟨hs, _⟩ | ⟨hs, _⟩
   ·exact node_s2 ho ih (by omega) sv W0 D paid seg at_ w hS hD hD0 hg p0 p1 hs (by omega)
   ·exact node_s5 ho ih (by omega) sv W0 D paid seg at_ w hS hD hD0 hg p0 p1 hs (by omega)
   ·exact node_s6 ho ih (by omega) sv W0 D paid seg at_ w hS hD hD0 hg p0 p1 hs (by omega)
def decP (a : List (List Int)) : Tr × Int := if fitsB (szs a) = true then ((nodeP (szs a) (wordA a) 32 0 0 0).1, (nodeP (szs a) (wordA a) 32 0 0 0).2.1) else (tr0, 1)
def DPost (r : Tr × Int) (w : World) (e : Ending) (w' : World) : Prop :=
 ∃ A1 c1 A2 c2 A3 c3, e = .returned (.tuple #[.agg #[.int .i64 r.1.kind, .int .i64 r.1.size, .slice A1 r.1.ws.length c1, .slice A2 r.1.bs.length c2, .slice A3 r.1.kids.length c3], .int .u16 r.2]) ∧ Grow w w' ∧
  TrR w' r.1 (.slice A1 r.1.ws.length c1) (.slice A2 r.1.bs.length c2) (.slice A3 r.1.kids.length c3) ∧ TrB r.1
theorem decode_calls (a : List (List Int)) (v : Value) (w : World) (h : RowsR .u64 a v w) (ha : OkA a) : Calls Tryz.prog 201 #[v] w (DPost (decP a) w) := by
 obtain ⟨A, n, rfl⟩ := h.slice
 have hg0 := (Keep.refl NoB w).alloc (.cells #[.int .i64 0, .int .i64 0, .slice none 0 0, .slice none 0 0, .slice none 0 0] 114)
 have HN := LH (heap_alloc_new w (.cells #[.int .i64 0, .int .i64 0, .slice none 0 0, .slice none 0 0, .slice none 0 0] 114))
 have HG := LH hg0
 have H := LH (h.grow hg0)
 have HA := LH ha
 clear h ha hg0
 go_enter Tryz.func201, Tryz.ntmps201
 go_wp2_with fail
 refine (right_calls a _ _ H.out HA.out).mono ?_
 rintro e w1 ⟨rfl, hg⟩
 replace HN := LH (hg.heap HN.out)
 replace HG := LH (HG.out.grow hg)
 replace H := LH (H.out.grow hg)
 clear hg
 cases hf : fitsB (szs a) with
 | false =>
  have E : Hid (decP a = (tr0, 1)) := LH (by unfold decP; rw [if_neg (by simp [hf])])
  clear hf
  obtain ⟨n0, n1, n2, n3, n4, nf⟩ := cells5 HN.out
  have hst := LH (stored5 (.int .i64 0) (.int .i64 0) (.slice none 0 0) (.slice none 0 0) (.slice none 0 0) HG.out (Nat.le_refl _) HN.out)
  go_wp2
  (try simp only [Exit.inBlock, Exit.then])
  obtain ⟨r0, r1, r2, r3, r4, rf⟩ := cells5 hst.out.1
  refine bodyPost_ret (v := .tuple #[.agg #[.int .i64 0, .int .i64 0, .slice none 0 0, .slice none 0 0, .slice none 0 0], .int .u16 1]) ?_ rfl ?_
  ·rw [results_cell_tmp rfl]; go_simp
  ·rw [E.out]
   exact ⟨none, 0, none, 0, none, 0, rfl, hst.out.2, TrR.nil _ 0 0, tr0_b⟩
 | true =>
  have E : Hid (decP a = ((nodeP (szs a) (wordA a) 32 0 0 0).1, (nodeP (szs a) (wordA a) 32 0 0 0).2.1)) := LH (by unfold decP; rw [if_pos hf])
  clear hf
  go_wp2_with fail
  refine (whole_calls A _ n w1).mono ?_
  rintro e w' ⟨rfl, rfl⟩
  have hS := LH (sou_whole H.out HA.out)
  have hg2 := (Keep.refl NoB w1).alloc (.cells #[.iface 363 (.agg #[.slice A a.length n]), .int .i64 0] 342)
  have HD : Hid (Dec w1.heap.size (.iface 363 (.agg #[.slice A a.length n])) 0 _) := LH (heap_alloc_new w1 (.cells #[.iface 363 (.agg #[.slice A a.length n]), .int .i64 0] 342))
  have Hlt := LH (gE HN.out).1
  replace HN := LH (Grow.heap hg2 HN.out)
  have HG2 := LH hg2
  clear hg2
  go_wp2_with fail
  refine (node_at (souOk_whole HA.out) 32 (by omega) _ w1 w1.heap.size 0 0 0 _ hS.out HD.out (Nat.le_refl _) HG2.out (by omega) (by omega)).mono ?_
  rintro e w3 ⟨vw, vb, vk, rfl, hdec, hkeep, hfoot, htrb⟩
  obtain ⟨A1, c1, A2, c2, A3, c3, rfl, rfl, rfl⟩ := hfoot.now.parts
  generalize nodeP (szs a) (wordA a) 32 0 0 0 = r at *
  have hlt := Hlt.out
  have hNo : w.heap.size ≠ w1.heap.size := by omega
  have HN3 := LH ((hkeep.block _ (gE HN.out).1 (fun e => hNo e)).trans HN.out)
  have HG3 : Hid (Grow w w3) := LH ((((HG.out.grow HG2.out).mono (fun _ h => h.elim)).trans hkeep (fun i hi => .inl hi) : Keep (fun k => k = w1.heap.size) w w3).new (fun i hi => by omega))
  obtain ⟨n0, n1, n2, n3, n4, nf⟩ := cells5 HN3.out
  have hst := LH (stored5 (.int .i64 r.1.kind) (.int .i64 r.1.size) (.slice A1 r.1.ws.length c1) (.slice A2 r.1.bs.length c2) (.slice A3 r.1.kids.length c3) HG3.out (Nat.le_refl _) HN3.out)
  have HF := LH (hfoot.keep (keepN5 (N := w.heap.size) (.int .i64 r.1.kind) (.int .i64 r.1.size) (.slice A1 r.1.ws.length c1) (.slice A2 r.1.bs.length c2) (.slice A3 r.1.kids.length c3)) (fun j hj e => by have := hj.1; simp at this; omega))
  have Htb := LH htrb
  clear hdec hkeep hfoot htrb hlt hNo
  go_wp2
  (try simp only [Exit.inBlock, Exit.then])
  obtain ⟨r0, r1, r2, r3, r4, rf⟩ := cells5 hst.out.1
  refine bodyPost_ret (v := .tuple #[.agg #[.int .i64 r.1.kind, .int .i64 r.1.size, .slice A1 r.1.ws.length c1, .slice A2 r.1.bs.length c2, .slice A3 r.1.kids.length c3], .int .u16 r.2.1]) ?_ rfl ?_
  ·rw [results_cell_tmp rfl]; go_simp
  ·rw [E.out]
   exact ⟨A1, c1, A2, c2, A3, c3, rfl, hst.out.2, HF.out.now, Htb.out⟩
def checkP (a : List (List Int)) : Int := if (decP a).2 = 0 then (if rightB 32 (decP a).1 = true then 0 else 23) else (decP a).2
def CPost (a : List (List Int)) (w : World) (e : Ending) (w' : World) : Prop :=
 ∃ (k s : Int) (A1 A2 A3 : Option Addr) (n1 n2 n3 c1 c2 c3 : Nat), e = .returned (.tuple #[.agg #[.int .i64 k, .int .i64 s, .slice A1 n1 c1, .slice A2 n2 c2, .slice A3 n3 c3], .int .u16 (checkP a)]) ∧ Grow w w'
theorem decoded_calls (a : List (List Int)) (v : Value) (w : World) (h : RowsR .u64 a v w) (ha : OkA a) : Calls Tryz.prog 131 #[v] w (CPost a w) := by
 have hg0 := (Keep.refl NoB w).alloc (.cells #[.int .i64 0, .int .i64 0, .slice none 0 0, .slice none 0 0, .slice none 0 0] 114)
 have HN := LH (heap_alloc_new w (.cells #[.int .i64 0, .int .i64 0, .slice none 0 0, .slice none 0 0, .slice none 0 0] 114))
 have HG := LH hg0
 have H := LH (decode_calls a v _ (h.grow hg0) ha)
 obtain ⟨A, n, rfl⟩ := h.slice
 clear h ha hg0
 have E0 : Hid (checkP a = if (decP a).2 = 0 then (if rightB 32 (decP a).1 = true then 0 else 23) else (decP a).2) := LH rfl
 go_enter Tryz.func131, Tryz.ntmps131
 go_wp2_with fail
 refine H.out.mono ?_
 rintro e w1 ⟨A1, c1, A2, c2, A3, c3, rfl, hg, htr, htb⟩
 generalize decP a = r at *
 obtain ⟨t, er⟩ := r
 have hg2 := (Keep.refl NoB w1).alloc (.cells #[.int .i64 t.kind, .int .i64 t.size, .slice A1 t.ws.length c1, .slice A2 t.bs.length c2, .slice A3 t.kids.length c3] 114)
 have HT := LH (heap_alloc_new w1 (.cells #[.int .i64 t.kind, .int .i64 t.size, .slice A1 t.ws.length c1, .slice A2 t.bs.length c2, .slice A3 t.kids.length c3] 114))
 replace HN := LH (Grow.heap hg2 (hg.heap HN.out))
 replace HG := LH ((HG.out.grow hg).grow hg2)
 have HTR := LH (And.intro (htr.grow hg2) htb)
 clear hg htr htb hg2 H
 obtain ⟨t0, t1, t2, t3, t4, tf⟩ := cells5 HT.out
 obtain ⟨n0, n1, n2, n3, n4, nf⟩ := cells5 HN.out
 by_cases he : er = 0
 case neg =>
  have eb : (er != 0) = true := by simp [he]
  have E : Hid (checkP a = er) := LH (E0.out.trans (if_neg he))
  have hst := LH (stored5 (.int .i64 0) (.int .i64 0) (.slice none 0 0) (.slice none 0 0) (.slice none 0 0) HG.out (Nat.le_refl _) HN.out)
  clear he
  go_wp2
  (try simp only [Exit.inBlock, Exit.then])
  obtain ⟨r0, r1, r2, r3, r4, rf⟩ := cells5 hst.out.1
  refine bodyPost_ret (v := .tuple #[.agg #[.int .i64 0, .int .i64 0, .slice none 0 0, .slice none 0 0, .slice none 0 0], .int .u16 er]) ?_ rfl ?_
  ·rw [results_cell_tmp rfl]; go_simp
  ·exact ⟨0, 0, none, none, none, 0, 0, 0, 0, 0, 0, by rw [E.out], hst.out.2⟩
 subst he
 replace E0 := LH (E0.out.trans (if_pos (by simp)))
 go_wp2_with fail
 refine (Right_calls t _ _ _ _ HTR.out.1 HTR.out.2).mono ?_
 rintro e w3 ⟨rfl, hg⟩
 replace HN := LH (hg.heap HN.out)
 replace HT := LH (hg.heap HT.out)
 replace HG := LH (HG.out.grow hg)
 clear hg t0 t1 t2 t3 t4 tf n0 n1 n2 n3 n4 nf
 obtain ⟨t0, t1, t2, t3, t4, tf⟩ := cells5 HT.out
 obtain ⟨n0, n1, n2, n3, n4, nf⟩ := cells5 HN.out
 cases hr : rightB 32 t with
 | false =>
  have E : Hid (checkP a = 23) := LH (E0.out.trans (if_neg (by simp [hr])))
  have hst := LH (stored5 (.int .i64 0) (.int .i64 0) (.slice none 0 0) (.slice none 0 0) (.slice none 0 0) HG.out (Nat.le_refl _) HN.out)
  clear hr
  go_wp2
  (try simp only [Exit.inBlock, Exit.then])
  obtain ⟨r0, r1, r2, r3, r4, rf⟩ := cells5 hst.out.1
  refine bodyPost_ret (v := .tuple #[.agg #[.int .i64 0, .int .i64 0, .slice none 0 0, .slice none 0 0, .slice none 0 0], .int .u16 23]) ?_ rfl ?_
  ·rw [results_cell_tmp rfl]; go_simp
  ·exact ⟨0, 0, none, none, none, 0, 0, 0, 0, 0, 0, by rw [E.out], hst.out.2⟩
 | true =>
  have E : Hid (checkP a = 0) := LH (E0.out.trans (if_pos hr))
  have hst := LH (stored5 (.int .i64 t.kind) (.int .i64 t.size) (.slice A1 t.ws.length c1) (.slice A2 t.bs.length c2) (.slice A3 t.kids.length c3) HG.out (Nat.le_refl _) HN.out)
  clear hr
  go_wp2
  (try simp only [Exit.inBlock, Exit.then])
  obtain ⟨r0, r1, r2, r3, r4, rf⟩ := cells5 hst.out.1
  refine bodyPost_ret (v := .tuple #[.agg #[.int .i64 t.kind, .int .i64 t.size, .slice A1 t.ws.length c1, .slice A2 t.bs.length c2, .slice A3 t.kids.length c3], .int .u16 0]) ?_ rfl ?_
  ·rw [results_cell_tmp rfl]; go_simp
  ·exact ⟨_, _, A1, A2, A3, _, _, _, c1, c2, c3, by rw [E.out], hst.out.2⟩
theorem check_calls (a : List (List Int)) (v : Value) (w : World) (h : RowsR .u64 a v w) (ha : OkA a) : Calls Tryz.prog 60 #[v] w fun e w' => e = .returned (.int .u16 (checkP a)) ∧ Grow w w' := by
 have H := LH (decoded_calls a v w h ha)
 obtain ⟨A, n, rfl⟩ := h.slice
 clear h ha
 go_enter Tryz.func60, Tryz.ntmps60
 go_wp2_with fail
 refine H.out.mono ?_
 rintro e w1 ⟨k, s, A1, A2, A3, n1, n2, n3, c1, c2, c3, rfl, hg⟩
 have Hg := LH (hg.alloc (.cells #[.int .i64 k, .int .i64 s, .slice A1 n1 c1, .slice A2 n2 c2, .slice A3 n3 c3] 114))
 clear hg H
 go_wp2
 go_ret
 exact ⟨rfl, Hg.out⟩
end Go.Proofs.YtfkcpaahdlkcdaaGreat
namespace Go.Proofs.YtfkcpaahdlkcdaaGreat
open Go.RowKit Go.Shelf
attribute [local go_sem] Oper.semAt_some
abbrev U64 := { x : Int // 0 ≤ x ∧ x ≤ 18446744073709551615 }
def u64z : U64 := ⟨0, by omega, by omega⟩
def upto {α : Type} (f : Nat → α) (k : Nat) : List α := (List.range k).map f
theorem upto_succ {α : Type} (f : Nat → α) (k : Nat) : upto f (k + 1) = upto f k ++ [f k] := by simp [upto, List.range_succ]
theorem upto_length {α : Type} (f : Nat → α) (k : Nat) : (upto f k).length = k := by simp [upto]
def pos (a : List (List Int)) (i j : Nat) : Nat := (a.take i).flatten.length + j
theorem pos_next {a : List (List Int)} {i : Nat} (h : i < a.length) : pos a i a[i].length = pos a (i + 1) 0 := by
 unfold pos
 rw [List.take_succ_eq_append_getElem h, List.flatten_append, List.length_append]
 simp only [List.flatten_cons, List.flatten_nil, List.append_nil, Nat.add_zero]
theorem pos_end (a : List (List Int)) : pos a a.length 0 = a.flatten.length := by simp [pos]
theorem pos_get {a : List (List Int)} {i j : Nat} (h : i < a.length) (hj : j < a[i].length) : a.flatten[pos a i j]? = some a[i][j] := by
 have e : a.flatten = (a.take i).flatten ++ (a[i] ++ (a.drop (i + 1)).flatten) := by
  rw [← List.flatten_cons, ← List.drop_eq_getElem_cons h, ← List.flatten_append, List.take_append_drop]
 unfold pos
 rw [e, List.getElem?_append_right (by omega), show (a.take i).flatten.length + j - (a.take i).flatten.length = j from by omega, List.getElem?_append_left hj, List.getElem?_eq_getElem hj]
def wat (l : List Int) (k : Nat) : U64 := if h : 0 ≤ l[k]?.getD 0 ∧ l[k]?.getD 0 ≤ 18446744073709551615 then ⟨l[k]?.getD 0, h⟩ else u64z
theorem wat_val {a : List (List Int)} (ho : OkA a) {i j : Nat} (h : i < a.length) (hj : j < a[i].length) : (wat a.flatten (pos a i j)).1 = a[i][j] := by
 have hb := ho.nums _ (List.getElem_mem h) _ (List.getElem_mem hj)
 have he : a.flatten[pos a i j]?.getD 0 = a[i][j] := by rw [pos_get h hj]; rfl
 unfold wat
 split
 ·exact he
 ·rename_i hc
  rw [he] at hc
  exact absurd hb hc
theorem pos_small {a : List (List Int)} (ho : OkA a) (hf : a.flatten.length ≤ 1000000) {i j : Nat} (h : i < a.length) (hj : j < a[i].length) : pos a i j < 1000000 := by
 have := (List.getElem?_eq_some_iff.1 (pos_get h hj)).1
 omega
theorem words1_in (F : Fence) (n : Nat) (h7 : F.fn 247) (hro : F.round = none) (hn : 1 ≤ n) (l Bs : Nat) (a : List (List Int)) (ho : OkA a) (hfl : a.flatten.length ≤ 1000000) (A : Option Addr) (c : Nat) (w0 : World) (hR : RowsR .u64 a (.slice A a.length c) w0) (J Jx : List (Nat × U64) → World → Prop)
    (hY : ∀ pre x W, J pre W → pre.length < a.flatten.length → YieldAt F (n - 1) Tryz.prog l #[.int .i64 (x.1 : Int), .int .u64 x.2.1] W fun e W' =>
     (e = .returned (.bool true) ∧ J (pre ++ [x]) W' ∧ Below w0.heap.size W W') ∨ (e = .returned (.bool false) ∧ Jx (pre ++ [x]) W'))
    (W : World) (hW : Below w0.heap.size w0 W) (hBs : W.cell? ⟨Bs, 0, none⟩ = some (.slice A a.length c)) (h0 : J [] W) :
    CallsIn F n Tryz.prog 247 #[.func (.yield l) #[] #[], .pointer (some ⟨Bs, 0, none⟩)] W fun e W' => (∃ v, e = .returned v) ∧
     ((∃ ys, ys = upto (fun k => (k, wat a.flatten k)) a.flatten.length ∧ J ys W') ∨ (∃ pre, (∃ k, k ≤ a.flatten.length ∧ pre = upto (fun k => (k, wat a.flatten k)) k) ∧ Jx pre W')) := by
 refine callsIn_of_wp Tryz.func247 rfl h7 ?_ hro
 simp only [Tryz.ntmps247, List.size_toArray, List.length_cons, List.length_nil, Nat.reduceAdd, Nat.reduceSub, Array.replicate_succ, Array.replicate_zero, List.push_toArray, List.append_toArray, List.nil_append, List.cons_append]
 gi_wp2
 gi_loopw [3, 10] (fun p q wr => ∃ i : Nat, i ≤ a.length ∧ q = .int .i64 i ∧ p = .int .i64 (pos a i 0) ∧ Hid (J (upto (fun k => (k, wat a.flatten k)) (pos a i 0)) wr ∧ Below w0.heap.size w0 wr)) (fun _ q _ => a.length - (intOf q).toNat)
 case atStart => exact ⟨0, Nat.zero_le _, rfl, by simp [pos], h0, hW⟩
 case round =>
  obtain ⟨i, hi, rfl, rfl, HJ⟩ := hrel
  by_cases hlt : i < a.length
  ·obtain ⟨ad, A', c', rfl, q0, hs⟩ := (hR.grow (Keep.of_below HJ.out.2)).at_ i hlt
   have hlt' : (i : Int) < a.length := by omega
   have hw : IntKind.i64.wrap ((i : Int) + 1) = (i : Int) + 1 := IntWalk.i64_in _ (by have := ho.segs; omega)
   have hsl : ∀ u, Below w0.heap.size w0 u → SliceR 1 (.slice A' a[i].length c') a[i].length (a[i].map (Value.int .u64)) u := fun u hu => by
    obtain ⟨ad4, A4, c4, e4, q4, hs4⟩ := hR.at_ i hlt
    injection e4 with e4
    subst e4
    have := (Keep.of_below HJ.out.2).cell q4 (fun h => h)
    rw [q0] at this
    injection this with this
    injection this with x1 x2 x3
    subst x1
    subst x3
    exact hs4.grow (Keep.of_below hu)
   have hseg := ho.words _ (List.getElem_mem hlt)
   have Hpn := LH (pos_next hlt)
   have Hsl := LH hsl
   clear hs hsl
   gi_wp2
   obtain ⟨wo, rfl⟩ : ∃ wo : World, wo = wr := ⟨_, rfl⟩
   clear q0
   gi_loopw [3, 16] (fun p q wr => ∃ j : Nat, j ≤ a[i].length ∧ q = .int .i64 j ∧ p = .int .i64 (pos a i j) ∧ Hid (J (upto (fun k => (k, wat a.flatten k)) (pos a i j)) wr ∧ Below w0.heap.size w0 wr)) (fun _ q _ => a[i].length - (intOf q).toNat)
   case atStart => exact ⟨0, Nat.zero_le _, rfl, rfl, HJ⟩
   case round =>
    clear HJ
    obtain ⟨j, hj, rfl, rfl, HJ⟩ := hrel
    by_cases hjl : j < a[i].length
    ·have hjl' : (j : Int) < a[i].length := by omega
     have hwj : IntKind.i64.wrap ((j : Int) + 1) = (j : Int) + 1 := IntWalk.i64_in _ (by omega)
     have hwp : IntKind.i64.wrap ((pos a i j : Nat) + 1 : Int) = (pos a i j : Nat) + 1 := IntWalk.i64_in _ (by have := pos_small ho hfl hlt hjl; omega)
     have hs2 := Hsl.out wr HJ.out.2
     obtain ⟨ad2, rfl, q1⟩ := SliceR.int_at hs2 j hjl
     have hlp : (upto (fun k => (k, wat a.flatten k)) (pos a i j)).length < a.flatten.length := by
      rw [upto_length]
      have := pos_get hlt hjl
      exact (List.getElem?_eq_some_iff.1 this).1
     obtain ⟨fn, tmps, assign, body, hy, hRR⟩ := hY _ (pos a i j, wat a.flatten (pos a i j)) wr HJ.out.1 hlp
     dsimp only at hy
     rw [wat_val ho hlt hjl] at hy
     have HRR := LH hRR
     clear hs2 hlp hRR
     gi_wp2
     refine HRR.out.mono ?_
     rintro e W3 (⟨rfl, hJ3, hk3⟩ | ⟨rfl, hJx3⟩)
     ·have HJ3 : Hid (J (upto (fun k => (k, wat a.flatten k)) (pos a i (j + 1))) W3 ∧ Below w0.heap.size w0 W3) := LH ⟨by rw [show pos a i (j + 1) = pos a i j + 1 from rfl, upto_succ]; exact hJ3, HJ.out.2.trans hk3⟩
      clear hJ3 hk3
      gi_wp2
      go_roundw
      case rel => exact ⟨j + 1, by omega, by go_num, by rw [show ((pos a i (j + 1) : Nat) : Int) = (pos a i j : Nat) + 1 from by unfold pos; omega], HJ3⟩
      case measure => simp [intOf]; omega
     ·have HX := LH hJx3
      clear hJx3
      gi_wp2
      refine bodyPost_ret (results_none rfl _ _ _) rfl ?_
      refine ⟨⟨_, rfl⟩, .inr ⟨_, ⟨pos a i j + 1, ?_, (upto_succ _ _).symm⟩, HX.out⟩⟩
      have := pos_get hlt hjl
      exact (List.getElem?_eq_some_iff.1 this).1
    ·obtain rfl : j = a[i].length := by omega
     have HJ3 := HJ
     rw [Hpn.out] at HJ3
     have hjl' : ¬ ((a[i].length : Int) < a[i].length) := by omega
     gi_wp2
     go_roundw
     case rel => exact ⟨i + 1, by omega, by go_num, by rw [Hpn.out], HJ3⟩
     case measure => simp [intOf]; omega
  ·obtain rfl : i = a.length := by omega
   have hlt' : ¬ ((a.length : Int) < a.length) := by omega
   have hJ := HJ.out
   rw [pos_end] at hJ
   have HJ2 := LH hJ.1
   clear hJ
   gi_wp2
   go_end0
   exact ⟨⟨_, rfl⟩, .inl (by simpa using HJ2.out)⟩
theorem words_calls (A : Option Addr) (n c : Nat) (w : World) : Calls Tryz.prog 206 #[.slice A n c] w fun e w' => e = .returned (.func (.func 247) #[] #[.pointer (some ⟨w.heap.size, 0, none⟩)]) ∧ w' = w.alloc (.cells #[.slice A n c] 29) := by
 go_enter Tryz.func206, Tryz.ntmps206
 go_wp2
 go_ret
 exact ⟨rfl, rfl⟩
theorem words_stops (F : Fence) (n : Nat) (h7 : F.fn 247) (hro : F.round = none) (hn : 1 ≤ n) (a : List (List Int)) (ho : OkA a) (hfl : a.flatten.length ≤ 1000000) (A : Option Addr) (c : Nat) (w0 : World) (hR : RowsR .u64 a (.slice A a.length c) w0) (Bs : Nat) (w : World) (hw : Below w0.heap.size w0 w) (hlt : Bs < w.heap.size)
    (hBs : w.cell? ⟨Bs, 0, none⟩ = some (.slice A a.length c)) :
    SeqStopsK F n Tryz.prog 247 #[.pointer (some ⟨Bs, 0, none⟩)] (fun x : Nat × U64 => #[Value.int .i64 (x.1 : Int), Value.int .u64 x.2.1]) (Below w0.heap.size) (fun ys => ys = upto (fun k => (k, wat a.flatten k)) a.flatten.length)
     (fun pre => ∃ k, k ≤ a.flatten.length ∧ pre = upto (fun k => (k, wat a.flatten k)) k) a.flatten.length w := fun l J Jx W hW _ _ hY h0 =>
 words1_in F n h7 hro hn l Bs a ho hfl A c w0 hR J Jx hY W (hw.trans (hW.mono hw.size)) ((hW.cell (p := ⟨Bs, 0, none⟩) hlt).trans hBs) h0
end Go.Proofs.YtfkcpaahdlkcdaaGreat
namespace Go.Proofs.YtfkcpaahdlkcdaaGreat
open Go.RowKit
section
variable {P : Program} {ops : Array Oper} {Q : Exit → Act → World → Prop} {md : Region.Mode} {ds : List Nat} {l n : Nat}
theorem roundV {ops : Array Oper} {i : Nat} {o : Oper} {a : Act} {w w' : World} {K : Act → World → Prop} {N : Option Tmp} (v : Value) (a' : Act) (hl : ops.toList[i]? = some o) (hN : o.dst = N) (hg : o.guard = none) (hd : ∀ c, o.op ≠ .defer c)
    (hy : (execOp a.eval o).run P w = .ok (.value v) w') (ha' : a.put N v = a') (hK : K a' w') : wpOpIn (Fence.wide.inRound l) n P ops Q i K a w := by
 have hi : ops[i]? = some o := by simpa using hl
 subst hN
 subst ha'
 unfold wpOpIn
 rw [hi]
 simp only
 rw [if_pos (by simp [Region.wanted, hg])]
 refine ⟨fun _ _ => trivial, ?_⟩
 rw [Oper.semAt_plain _ _ _ hd, hy]
 exact hK
theorem roundS {ops : Array Oper} {i : Nat} {o : Oper} {a : Act} {w w' : World} {K : Act → World → Prop} (hl : ops.toList[i]? = some o) (hN : o.dst = none) (hg : o.guard = none) (hd : ∀ c, o.op ≠ .defer c)
    (hy : (execOp a.eval o).run P w = .ok .skip w') (hK : K a w') : wpOpIn (Fence.wide.inRound l) n P ops Q i K a w := by
 have hi : ops[i]? = some o := by simpa using hl
 unfold wpOpIn
 rw [hi]
 simp only
 rw [if_pos (by simp [Region.wanted, hg])]
 refine ⟨fun _ _ => trivial, ?_⟩
 rw [Oper.semAt_plain _ _ _ hd, hy]
 rw [Oper.uponIn_skip, hN]
 exact hK
theorem roundC {ops : Array Oper} {i : Nat} {o : Oper} {a : Act} {w : World} {K : Act → World → Prop} {N : Option Tmp} {f : FuncId} {args : Array Value} (hl : ops.toList[i]? = some o) (hN : o.dst = N) (hg : o.guard = none) (hd : ∀ c, o.op ≠ .defer c)
    (hy : (execOp a.eval o).run P w = .ok (.enter f args) w) (h : Calls P f args w fun e w' => ∃ v, e = .returned v ∧ K (a.put N v) w') : wpOpIn (Fence.wide.inRound l) n P ops Q i K a w := by
 have hi : ops[i]? = some o := by simpa using hl
 subst hN
 unfold wpOpIn
 rw [hi]
 simp only
 rw [if_pos (by simp [Region.wanted, hg])]
 refine ⟨fun _ _ => trivial, ?_⟩
 rw [Oper.semAt_plain _ _ _ hd, hy, Oper.uponIn_enter]
 refine ⟨(fun hh => by cases hh), CallsIn.inRound l (callsIn_wide.2 (h.mono ?_))⟩
 rintro e w' ⟨v, rfl, hk⟩
 exact hk
theorem roundApp {ops : Array Oper} {i : Nat} {o : Oper} {a : Act} {w : World} {K : Act → World → Prop} {N : Option Tmp} (hl : ops.toList[i]? = some o) (hN : o.dst = N) (hgd : o.guard = none) (s x : Operand) (t tx : TypeId)
    (ho : o.op = .call { callee := .builtin .append, args := #[s, x], argTypes := #[t, tx] })
    (base : Nat) (e : TypeId) (z : Value) (size bytes : Nat) (ht : P.underlying t = some (.slice e)) (hinfo : (P.info? e).map (fun i => (i.zero, i.size, i.bytes)) = some (some z, size, bytes))
    (hzs : z.cells.size = size)
    (v : Value) (m : Nat) (xs : List Value) (hv : a.eval s = v)
    (xv : Value) (k : Nat) (news : List Value) (hx : a.eval x = xv)
    (h : ∀ v' w', Apped base e size v v' (m + k) (xs ++ news) w w' (v = .slice none 0 0 ∧ k = 0) → K (a.put N v') w')
    (hown : w.ownsRow base e size v m xs) (hs : Src P size tx xv k news w)
    (h63 : m + k ≤ maxLen) (hbytes : (m + k) * bytes ≤ 140737488355328) (hbase : base ≤ w.heap.size) : wpOpIn (Fence.wide.inRound l) n P ops Q i K a w := by
 obtain ⟨i0, hi, h1, h2, h3⟩ := info_parts hinfo
 obtain ⟨v', w', hr, g1, g2, g3, g4⟩ := run_app (P := P) w base t tx o.type e i0 z size bytes ht hi h1 h2 h3 hzs v m xs hown xv k news hs h63 hbytes hbase
 refine roundV v' _ hl hN hgd (by rw [ho]; intro c hc; cases hc) ?_ rfl (h v' w' ⟨g1, g2, g3, g4⟩)
 unfold execOp
 simp only [ho, resolve, invoke, builtin, Sem.run_bind, Sem.run_pure, Result.andThen_ok, List.map_toArray, List.map_cons, List.map_nil, hv, hx, hr]
end
end Go.Proofs.YtfkcpaahdlkcdaaGreat
