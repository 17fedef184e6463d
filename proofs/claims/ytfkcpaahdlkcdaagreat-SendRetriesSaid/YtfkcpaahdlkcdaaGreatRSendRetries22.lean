import Derived.Test.YtfkcpaahdlkcdaaGreatRSendRetries01
import Derived.Test.YtfkcpaahdlkcdaaGreatRSendRetries05
import Derived.Test.YtfkcpaahdlkcdaaGreatRSendRetries13
import Derived.Test.YtfkcpaahdlkcdaaGreatRSendRetries17
import Derived.Test.YtfkcpaahdlkcdaaGreatRSendRetries21
import Derived.OpenShut
import Derived.ShutString
import Derived.ChangeOld
import Derived.SizedLaws
import Derived.Deep.Matrix
import Derived.Deep.Grids
set_option linter.unusedSimpArgs false
set_option linter.unusedVariables false
set_option maxRecDepth 100000
set_option maxHeartbeats 16000000
namespace Go.Proofs.YtfkcpaahdlkcdaaGreat
open Go.RowKit
def QDPost (r : Tr × Int) (w : World) (e : Ending) (w' : World) : Prop :=
 ∃ (k s : Int) (A1 A2 A3 : Option Addr) (n1 c1 n2 c2 n3 c3 : Nat), e = .returned (.tuple #[.agg #[.int .i64 k, .int .i64 s, .slice A1 n1 c1, .slice A2 n2 c2, .slice A3 n3 c3], .int .i64 r.2]) ∧ Grow w w' ∧
  (r.2 = 0 → k = r.1.kind ∧ s = r.1.size ∧ TrB r.1 ∧ TrR w' r.1 (.slice A1 n1 c1) (.slice A2 n2 c2) (.slice A3 n3 c3))
theorem qdec_kid {w0 c : World} {B : Nat} (hg : Grow w0 c) (h2 : c.heap[B]? = some (.cells #[.int .i64 0, .int .i64 0, .slice none 0 0, .slice none 0 0, .slice none 0 0] 114 (0, 0))) (A : Option Addr) (n ca : Nat) (p2 e2 k5 s5 : Int) (x1 x2 x3 : Value) :
    ((c.alloc (.cells #[.slice A n ca, .bool false, .slice none 0 0, .int .i64 p2, .int .i64 e2] 216)).alloc (.cells #[.int .i64 k5, .int .i64 s5, x1, x2, x3] 114)).heap[c.heap.size]? = some (.cells #[.slice A n ca, .bool false, .slice none 0 0, .int .i64 p2, .int .i64 e2] 216 (0, 0)) ∧
    ((c.alloc (.cells #[.slice A n ca, .bool false, .slice none 0 0, .int .i64 p2, .int .i64 e2] 216)).alloc (.cells #[.int .i64 k5, .int .i64 s5, x1, x2, x3] 114)).heap[c.heap.size + 1]? = some (.cells #[.int .i64 k5, .int .i64 s5, x1, x2, x3] 114 (0, 0)) ∧
    ((c.alloc (.cells #[.slice A n ca, .bool false, .slice none 0 0, .int .i64 p2, .int .i64 e2] 216)).alloc (.cells #[.int .i64 k5, .int .i64 s5, x1, x2, x3] 114)).heap[B]? = some (.cells #[.int .i64 0, .int .i64 0, .slice none 0 0, .slice none 0 0, .slice none 0 0] 114 (0, 0)) ∧
    Grow w0 ((c.alloc (.cells #[.slice A n ca, .bool false, .slice none 0 0, .int .i64 p2, .int .i64 e2] 216)).alloc (.cells #[.int .i64 k5, .int .i64 s5, x1, x2, x3] 114)) ∧ Grow c ((c.alloc (.cells #[.slice A n ca, .bool false, .slice none 0 0, .int .i64 p2, .int .i64 e2] 216)).alloc (.cells #[.int .i64 k5, .int .i64 s5, x1, x2, x3] 114)) := by
 obtain ⟨ha, hb0, hga⟩ := heap_two c (.cells #[.slice A n ca, .bool false, .slice none 0 0, .int .i64 p2, .int .i64 e2] 216) (.cells #[.int .i64 k5, .int .i64 s5, x1, x2, x3] 114)
 exact ⟨ha, hb0, Grow.heap hga h2, hg.grow hga, hga⟩
theorem qdecode_calls (a : List (List Int)) (ho : OkA a) (A : Option Addr) (c : Nat) (w : World) (h : RowsR .u64 a (.slice A a.length c) w) : Calls Tryz.prog 67 #[.slice A a.length c] w (QDPost (decP a) w) := by
 have hg0 := (Keep.refl NoB w).alloc (.cells #[.int .i64 0, .int .i64 0, .slice none 0 0, .slice none 0 0, .slice none 0 0] 114)
 have HN := LH (heap_alloc_new w (.cells #[.int .i64 0, .int .i64 0, .slice none 0 0, .slice none 0 0, .slice none 0 0] 114))
 have HG := LH hg0
 have H := LH (h.grow hg0)
 have HA := LH ho
 clear h ho hg0
 go_enter Tryz.func67, Tryz.ntmps67
 cases hf : fitsB (szs a) with
 | false =>
  have E : Hid (decP a = (tr0, 1)) := LH (by unfold decP; rw [if_neg (by simp [hf])])
  have HR := LH (rright_false a HA.out A c _ H.out hf)
  clear hf
  go_wp2_with fail
  refine HR.out.mono ?_
  rintro e w1 ⟨rfl, hg⟩
  replace HN := LH (hg.heap HN.out)
  replace HG := LH (HG.out.grow hg)
  clear hg HR
  obtain ⟨n0, n1, n2, n3, n4, nf⟩ := cells5 HN.out
  have hst := LH (stored5 (.int .i64 0) (.int .i64 0) (.slice none 0 0) (.slice none 0 0) (.slice none 0 0) HG.out (Nat.le_refl _) HN.out)
  go_wp2
  (try simp only [Exit.inBlock, Exit.then])
  obtain ⟨r0, r1, r2, r3, r4, rf⟩ := cells5 hst.out.1
  refine bodyPost_ret (v := .tuple #[.agg #[.int .i64 0, .int .i64 0, .slice none 0 0, .slice none 0 0, .slice none 0 0], .int .i64 1]) ?_ rfl ?_
  ·rw [results_cell_tmp rfl]; go_simp
  ·rw [E.out]
   exact ⟨0, 0, none, none, none, 0, 0, 0, 0, 0, 0, rfl, hst.out.2, fun h => by cases h⟩
 | true =>
  have E : Hid (decP a = ((nodeP (szs a) (wordA a) 32 0 0 0).1, (nodeP (szs a) (wordA a) 32 0 0 0).2.1)) := LH (by unfold decP; rw [if_pos hf])
  have HR := LH (rright_true a A c _ H.out hf)
  clear hf
  go_wp2_with fail
  refine HR.out.mono ?_
  rintro e w1 ⟨rfl, hg⟩
  replace HN := LH (hg.heap HN.out)
  replace HG := LH (HG.out.grow hg)
  replace H := LH (H.out.grow hg)
  clear hg HR
  have HW1 : Hid (w.heap.size < w1.heap.size) := LH (gE HN.out).1
  have hcall := qnode_at a HA.out A c 32 0 (by decide) (by decide) 0 0 0 w1 H.out (by decide) (by decide)
  have HC := LH hcall
  clear hcall
  go_wp2_with fail
  refine HC.out.mono ?_
  rintro e w2 ⟨p5, k5, s5, B1, B2, B3, m1, d1, m2, d2, m3, d3, rfl, hg, hres⟩
  clear HC
  generalize nodeP (szs a) (wordA a) 32 0 0 0 = r at *
  obtain ⟨e5, he5⟩ : ∃ e5, r.2.1 = e5 := ⟨_, rfl⟩
  rw [he5]
  replace HN := LH (hg.heap HN.out)
  replace HG := LH (HG.out.grow hg)
  obtain ⟨kC, kD, kE, kG, kg⟩ := qdec_kid HG.out HN.out A a.length c p5 e5 k5 s5 (.slice B1 m1 d1) (.slice B2 m2 d2) (.slice B3 m3 d3)
  obtain ⟨c0, c1, c2, c3, c4, cf⟩ := cells5 kC
  have hlt := (gE HN.out).1
  have HLT : Hid (w.heap.size < w2.heap.size) := LH hlt
  have KC := LH kC
  have KD := LH kD
  have KE := LH kE
  have KG := LH kG
  have Kg := LH kg
  have HRS := LH hres
  have HE5 := LH he5
  clear hg kC kD kE kG kg hres he5 hlt
  by_cases hz : e5 = 0
  case neg =>
   have hzb : (e5 != 0) = true := by simpa using hz
   have HZ := LH hz
   clear hz
   go_wp2
   clear c0 c1 c2 c3 c4 cf
   revert KC KD KE KG Kg
   generalize ((w2.alloc (.cells #[.slice A a.length c, .bool false, .slice none 0 0, .int .i64 p5, .int .i64 e5] 216)).alloc (.cells #[.int .i64 k5, .int .i64 s5, .slice B1 m1 d1, .slice B2 m2 d2, .slice B3 m3 d3] 114)) = w3
   intro KC KD KE KG Kg
   obtain ⟨wd, hwd⟩ : ∃ wd : World, w3.drew = wd := ⟨_, rfl⟩
   have hdr := (Keep.refl NoB w3).drew
   rw [hwd] at hdr
   replace KC := LH (Grow.heap hdr KC.out)
   replace KE := LH (Grow.heap hdr KE.out)
   replace KG := LH (KG.out.grow hdr)
   clear hdr
   have HNE : Hid (¬ w2.heap.size = w.heap.size) := LH (by have := HLT.out; omega)
   obtain ⟨c0, c1, c2, c3, c4, cf⟩ := cells5 KC.out
   obtain ⟨n0, n1, n2, n3, n4, nf⟩ := cells5 KE.out
   have hst := LH (stored5 (.int .i64 0) (.int .i64 0) (.slice none 0 0) (.slice none 0 0) (.slice none 0 0) KG.out (Nat.le_refl _) KE.out)
   refine region_ordS (fun j => j = w.heap.size) [0, 1, 2, 3, 4] [3, 4] [2] [] rfl (by kernel_rfl) ?_
   rw [hwd]
   clear hwd
   iterate 2
    refine ord_pure rfl rfl rfl rfl rfl (fun _ _ _ _ h => h) ?_ ?_ ?_ ?_ ?_
    rotate_left 2
    ·intro w'; go_simp; with_reducible rfl
    ·simp only [Act.put, pB, pC, pD]; rfl
   refine ord_read rfl rfl rfl rfl rfl (fun _ _ _ _ h => h) ?_ ?_ ?_ ?_ ?_
   rotate_left 2
   ·intro w' hg; have q := hg.cell c4 HNE.out; go_simp; with_reducible rfl
   ·simp only [Act.put, pB, pC, pD]; rfl
   refine ord_put rfl rfl rfl rfl ?_ ?_ ?_ ?_
   rotate_left
   ·go_simp; with_reducible rfl
   ·exact fun _ => keepN5 _ _ _ _ _
   refine ord_set rfl rfl rfl rfl ?_ ?_ ?_ ?_ ?_
   rotate_left 2
   ·go_simp; with_reducible rfl
   ·simp only [Act.put, pB, pC, pD]; rfl
   refine ord_nil ?_
   clear c0 c1 c2 c3 c4 cf n0 n1 n2 n3 n4 nf
   revert hst
   generalize (((((wd.setCell ⟨w.heap.size, 0, none⟩ (.int .i64 0)).setCell ⟨w.heap.size, 1, none⟩ (.int .i64 0)).setCell ⟨w.heap.size, 2, none⟩ (.slice none 0 0)).setCell ⟨w.heap.size, 3, none⟩ (.slice none 0 0)).setCell ⟨w.heap.size, 4, none⟩ (.slice none 0 0)) = w4
   intro hst
   go_wp2
   (try simp only [Exit.inBlock, Exit.then])
   obtain ⟨r0, r1, r2, r3, r4, rf⟩ := cells5 hst.out.1
   refine bodyPost_ret (v := .tuple #[.agg #[.int .i64 0, .int .i64 0, .slice none 0 0, .slice none 0 0, .slice none 0 0], .int .i64 e5]) ?_ rfl ?_
   ·rw [results_cell_tmp rfl]; go_simp
   ·rw [E.out]
    exact ⟨0, 0, none, none, none, 0, 0, 0, 0, 0, 0, by rw [HE5.out], hst.out.2, fun h => absurd (HE5.out.symm.trans h) HZ.out⟩
  ·have hzb : (e5 != 0) = false := by simpa using hz
   have HZ := LH hz
   obtain ⟨q1, q2, q3, q4, q5, q6, q7, q8⟩ := HRS.out (HE5.out.trans hz)
   have HB := LH q7
   have HF := LH (q8.grow Kg.out)
   have HKS := LH (And.intro q2 q3)
   clear hz q1 q2 q3 q4 q5 q6 q7 q8
   obtain ⟨g0, g1, g2, g3, g4, gf⟩ := cells5 KD.out
   obtain ⟨n0, n1, n2, n3, n4, nf⟩ := cells5 KE.out
   have hst := LH (stored5 (.int .i64 k5) (.int .i64 s5) (.slice B1 m1 d1) (.slice B2 m2 d2) (.slice B3 m3 d3) KG.out (Nat.le_refl _) KE.out)
   have HT := LH (HF.out.keep (keepN5 (N := w.heap.size) (.int .i64 k5) (.int .i64 s5) (.slice B1 m1 d1) (.slice B2 m2 d2) (.slice B3 m3 d3)) (fun j hj e => by have := HW1.out; omega))
   go_wp2
   (try simp only [Exit.inBlock, Exit.then])
   obtain ⟨r0, r1, r2, r3, r4, rf⟩ := cells5 hst.out.1
   refine bodyPost_ret (v := .tuple #[.agg #[.int .i64 k5, .int .i64 s5, .slice B1 m1 d1, .slice B2 m2 d2, .slice B3 m3 d3], .int .i64 0]) ?_ rfl ?_
   ·rw [results_cell_tmp rfl]; go_simp
   ·rw [E.out]
    exact ⟨k5, s5, B1, B2, B3, m1, d1, m2, d2, m3, d3, by rw [HE5.out, HZ.out], hst.out.2, fun _ => ⟨HKS.out.1, HKS.out.2, HB.out, HT.out.now⟩⟩
theorem qcheck_calls (a : List (List Int)) (ho : OkA a) (A : Option Addr) (c : Nat) (w : World) (h : RowsR .u64 a (.slice A a.length c) w) : Calls Tryz.prog 17 #[.slice A a.length c] w fun e w' => e = .returned (.int .i64 (checkP a)) ∧ Grow w w' := by
 have HD := LH (qdecode_calls a ho A c w h)
 have E : Hid (checkP a = if (decP a).2 = 0 then (if rightB 32 (decP a).1 = true then 0 else 23) else (decP a).2) := LH rfl
 clear ho h
 go_enter Tryz.func17, Tryz.ntmps17
 go_wp2_with fail
 refine HD.out.mono ?_
 rintro e w1 ⟨k5, s5, B1, B2, B3, m1, d1, m2, d2, m3, d3, rfl, hg, hres⟩
 generalize decP a = r at *
 obtain ⟨e5, he5⟩ : ∃ e5, r.2 = e5 := ⟨_, rfl⟩
 rw [he5] at E hres ⊢
 have hga := (Keep.refl NoB w1).alloc (.cells #[.int .i64 k5, .int .i64 s5, .slice B1 m1 d1, .slice B2 m2 d2, .slice B3 m3 d3] 114)
 have hz0 := heap_alloc_new w1 (.cells #[.int .i64 k5, .int .i64 s5, .slice B1 m1 d1, .slice B2 m2 d2, .slice B3 m3 d3] 114)
 obtain ⟨g0, g1, g2, g3, g4, gf⟩ := cells5 hz0
 have HG := LH (hg.grow hga)
 have HG1 := LH hga
 have HRS := LH hres
 clear hg hres hga hz0 HD he5
 by_cases hz : e5 = 0
 case neg =>
  have hzb : (e5 != 0) = true := by simpa using hz
  replace E := LH (E.out.trans (if_neg hz))
  clear hz
  go_wp2
  go_ret
  rw [E.out]
  exact ⟨rfl, HG.out⟩
 ·have hzb : (e5 != 0) = false := by simpa using hz
  obtain ⟨q1, q2, q3, q4⟩ := HRS.out hz
  replace E := LH (E.out.trans (if_pos hz))
  have HRT := LH (rright_calls r.1 _ _ _ _ (q4.grow HG1.out) q3)
  rw [← q1, ← q2] at HRT
  clear hz q1 q2 q3 q4
  go_wp2_with fail
  refine HRT.out.mono ?_
  rintro e w2 ⟨rfl, hg⟩
  clear HRT
  cases hr : rightB 32 r.1 with
  | true =>
   replace E := LH (E.out.trans (if_pos hr))
   clear hr
   go_wp2
   go_ret
   rw [E.out]
   exact ⟨rfl, HG.out.grow hg⟩
  | false =>
   replace E := LH (E.out.trans (if_neg (by simp [hr])))
   clear hr
   go_wp2
   go_ret
   rw [E.out]
   exact ⟨rfl, HG.out.grow hg⟩
def E99 (e : Int) : Prop := 0 ≤ e ∧ e ≤ 99
theorem e99_0 : E99 0 := ⟨by decide, by decide⟩
theorem e99_20 : E99 20 := ⟨by decide, by decide⟩
theorem e99_23 : E99 23 := ⟨by decide, by decide⟩
theorem ptrDec_e (x : Int) : E99 (ptrDec x).2 := by
 unfold ptrDec
 repeat' split
 all_goals first | exact e99_0 | exact e99_23
theorem wordA_e (a : List (List Int)) (s x : Int) : E99 (wordA a s x).2 := by
 unfold wordA
 split
 ·exact e99_0
 ·exact e99_20
theorem ptrWords_e (p : Pt) : E99 (ptrWords p).2 := by
 unfold ptrWords
 repeat' split
 all_goals first | exact e99_0 | exact e99_23
theorem ptrAt_e {wd : Int → Int → Int × Int} (h : ∀ s x, E99 (wd s x).2) (s x : Int) : E99 (ptrAt wd s x).2 := by
 unfold ptrAt
 split
 ·exact ptrDec_e _
 ·exact h _ _
theorem foundP_e (sz : List Int) (p : Pt) (s x : Int) : E99 (foundP sz p s x).2 := by
 unfold foundP
 repeat' split
 ·exact e99_0
 ·exact e99_20
 ·exact ptrWords_e _
theorem landedP_e (sz : List Int) {wd : Int → Int → Int × Int} (h : ∀ s x, E99 (wd s x).2) (p : Pt) : E99 (landedP sz wd p).2 := by
 unfold landedP
 repeat' split
 ·exact foundP_e _ _ _ _
 ·exact e99_23
 ·exact ptrAt_e h _ _
theorem twiceP_e (sz : List Int) {wd : Int → Int → Int × Int} (h : ∀ s x, E99 (wd s x).2) (p : Pt) : E99 (twiceP sz wd p).2 := by
 unfold twiceP
 repeat' split
 ·exact foundP_e _ _ _ _
 ·exact e99_23
 ·exact ptrDec_e _
 ·exact ptrDec_e _
 ·exact h _ _
 ·exact h _ _
theorem followP_e (sz : List Int) {wd : Int → Int → Int × Int} (h : ∀ s x, E99 (wd s x).2) (s x : Int) : E99 (followP sz wd s x).2 := by
 unfold followP
 repeat' split
 ·exact foundP_e _ _ _ _
 ·exact twiceP_e _ h _
 ·exact landedP_e _ h _
 ·exact ptrAt_e h _ _
theorem kidsK_e {f : Int → Int → Tr × Int × Int} (hf : ∀ x p, E99 (f x p).2.1) (at0 p0 : Int) : ∀ k, E99 (kidsK f at0 p0 k).2.1
 | 0 => e99_0
 | k + 1 => by
  unfold kidsK
  repeat' split
  ·exact e99_0
  ·exact hf _ _
  ·exact kidsK_e hf at0 p0 k
theorem nodeT_e (wd : Int → Int → Int × Int) {f : Int → Int → Int → Tr × Int × Int} (hf : ∀ s x p, E99 (f s x p).2.1) (o : Ob) (p : Int) : E99 (nodeT wd f o p).2.1 := by
 unfold nodeT
 have hk := kidsK_e (f := f o.seg) (hf _) (if o.size = 6 then o.at_ else o.at_ + o.data) p (if o.size = 6 then o.count else o.ptrs).toNat
 generalize kidsK (f o.seg) (if o.size = 6 then o.at_ else o.at_ + o.data) p (if o.size = 6 then o.count else o.ptrs).toNat = K at hk ⊢
 by_cases h : K.2.1 = 0
 ·rw [if_pos h]; exact e99_0
 ·rw [if_neg h]; exact hk
theorem nodeS_e (sz : List Int) {wd : Int → Int → Int × Int} (h : ∀ s x, E99 (wd s x).2) (last : Bool) {f : Int → Int → Int → Tr × Int × Int} (hf : ∀ s x p, E99 (f s x p).2.1) (s x p : Int) : E99 (nodeS sz wd last f s x p).2.1 := by
 unfold nodeS
 repeat' split
 ·exact (show E99 21 from ⟨by decide, by decide⟩)
 ·exact (show E99 22 from ⟨by decide, by decide⟩)
 ·exact nodeT_e _ hf _ _
 ·exact followP_e _ h _ _
theorem nodeP_e (sz : List Int) {wd : Int → Int → Int × Int} (h : ∀ s x, E99 (wd s x).2) : ∀ (l : Nat) (s x p : Int), E99 (nodeP sz wd l s x p).2.1
 | 0, s, x, p => nodeS_e sz h true (fun _ _ _ => e99_0) s x p
 | l + 1, s, x, p => nodeS_e sz h false (nodeP_e sz h l) s x p
theorem checkP_in (a : List (List Int)) : 0 ≤ checkP a ∧ checkP a ≤ 99 := by
 have hd : E99 (decP a).2 := by
  unfold decP
  split
  ·exact nodeP_e _ (wordA_e a) _ _ _ _
  ·exact ⟨by decide, by decide⟩
 unfold checkP
 repeat' split
 ·exact e99_0
 ·exact e99_23
 ·exact hd
end Go.Proofs.YtfkcpaahdlkcdaaGreat
namespace Go.Proofs.YtfkcpaahdlkcdaaGreat
open Go.RowKit
def TT (back : Int) : Nat → Int
 | 0 => 0
 | s + 1 => TT back s + pauseN back s
theorem pauseN_le (back t : Int) : pauseN back t ≤ back := by unfold pauseN; omega
theorem pauseN_pos {back : Int} (h : 1 ≤ back) (t : Int) : 1 ≤ pauseN back t := by
 unfold pauseN
 have : (1 : Int) ≤ 2 ^ (min t 10).toNat := by
  have h2 : (0 : Int) < 2 ^ (min t 10).toNat := Int.pow_pos (by decide)
  omega
 omega
theorem TT_le {back : Int} : ∀ s : Nat, TT back s ≤ s * back
 | 0 => by simp [TT]
 | s + 1 => by
  have h1 := TT_le (back := back) s
  have h2 := pauseN_le back s
  have e : ((s + 1 : Nat) : Int) * back = (s : Int) * back + back := by rw [Int.natCast_add, Int.add_mul]; simp
  unfold TT
  omega
theorem TT_lt {back : Int} (h : 1 ≤ back) (s : Nat) : TT back s < TT back (s + 1) := by
 have := pauseN_pos h s
 show TT back s < TT back s + pauseN back s
 omega
def trS (P q s k : Nat) : List Int := (List.range (P + q)).map (fun i => if i < k then ((s + 1 : Nat) : Int) else if i < P then (s : Int) else 0)
theorem trS_length (P q s k : Nat) : (trS P q s k).length = P + q := by simp [trS]
theorem trS_getD (P q s k : Nat) (hk : k < P) : (trS P q s k).getD k 0 = s := by
 unfold trS
 rw [List.getD_eq_getElem?_getD, List.getElem?_map, List.getElem?_range (by omega)]
 simp [hk]
theorem trS_set (P q s k : Nat) (hk : k < P) : (trS P q s k).set k ((s : Int) + 1) = trS P q s (k + 1) := by
 apply List.ext_getElem?
 intro i
 rw [List.getElem?_set]
 unfold trS
 by_cases h : k = i
 ·subst h
  rw [if_pos rfl, List.getElem?_map, List.getElem?_range (by omega)]
  simp
  omega
 ·rw [if_neg h, List.getElem?_map, List.getElem?_map]
  rcases Nat.lt_or_ge i (P + q) with hi | hi
  ·rw [List.getElem?_range hi]
   by_cases h1 : i < k
   ·simp [h1, show i < k + 1 from by omega]
   ·simp [h1, show ¬ i < k + 1 from by omega]
  ·rw [List.getElem?_eq_none (by simp; omega)]
   rfl
theorem trS_next (P q s : Nat) : trS P q s P = trS P q (s + 1) 0 := by
 unfold trS
 refine List.map_congr_left (fun i _ => ?_)
 by_cases h : i < P
 ·simp [h]
 ·simp [h]
theorem trS_zero (P q : Nat) : List.replicate (P + q) (0 : Int) = trS P q 0 0 := by
 apply List.ext_getElem?
 intro i
 unfold trS
 rw [List.getElem?_replicate, List.getElem?_map]
 by_cases h : i < P + q
 ·rw [if_pos h, List.getElem?_range h]; simp
 ·rw [if_neg h, List.getElem?_eq_none (by simp; omega)]; rfl
def rSt (d : Snd) (P q s : Nat) (X : Int) (k : Nat) : Snd := { d with tm := rowT 0 X k, tries := trS P q s k }
theorem rSt_step (now X : Int) (d : Snd) (P q s : Nat) (hX : X = now + pauseN d.back s) (hP : P ≤ 4) (k : Nat) (hk : k < P) : stepD now k (rSt d P q s X k) = rSt d P q s X (k + 1) := by
 have hh := rowT_has 0 X k k (Nat.le_refl _)
 rw [Nat.zero_add] at hh
 have h1 : rSet (rowT 0 X k) (k : Int) X = rowT 0 X (k + 1) := by
  rw [rSet_new hh (by rw [rowT_length]; omega), rowT_succ, Nat.zero_add]
 unfold stepD setD rSt
 dsimp only
 rw [trS_getD P q s k hk, trS_set P q s k hk, ← hX, h1]
theorem tickL_ret (now T X : Int) (d : Snd) (P q s : Nat) (hs : (s : Int) < d.retry) (hX : X = now + pauseN d.back s) (hP : P ≤ 4) : ∀ (m k : Nat) (out : List Gm), k + m = P →
    tickL now ((List.range m).map (fun (i : Nat) => (((k + i : Nat) : Int), T))) (rSt d P q s X k) out = (rSt d P q s X P, out ++ (List.range m).map (fun i => ofG d (k + i)))
 | 0, k, out, h => by
  obtain rfl : k = P := by omega
  simp [tickL]
 | m + 1, k, out, h => by
  have e : ∀ {α : Type} (f : Nat → α), (List.range (m + 1)).map f = f 0 :: (List.range m).map (fun i => f (i + 1)) := fun f => by
   rw [List.range_succ_eq_map, List.map_cons, List.map_map]; rfl
  rw [e, e]
  unfold tickL
  simp only [Int.toNat_natCast, Nat.add_zero]
  rw [if_neg (by show ¬ d.retry ≤ (trS P q s k).getD k 0; rw [trS_getD P q s k (by omega)]; omega)]
  rw [rSt_step now X d P q s hX hP k (by omega)]
  have h1 : (List.range m).map (fun (i : Nat) => (((k + (i + 1) : Nat) : Int), T)) = (List.range m).map (fun (i : Nat) => (((k + 1 + i : Nat) : Int), T)) := List.map_congr_left (fun i _ => by rw [show k + (i + 1) = k + 1 + i from by omega])
  have h2 : (List.range m).map (fun i => ofG d (k + (i + 1))) = (List.range m).map (fun i => ofG d (k + 1 + i)) := List.map_congr_left (fun i _ => by rw [show k + (i + 1) = k + 1 + i from by omega])
  rw [h1, h2]
  rw [tickL_ret now T X d P q s hs hX hP m (k + 1) (out ++ [ofG (rSt d P q s X k) k]) (by omega), List.append_assoc]
  rfl
def RD (d : Snd) (P q s : Nat) : Snd := { d with tm := rowT 0 (TT d.back s) P, tries := trS P q s 0 }
theorem hasL_rowT (P : Nat) (T : Int) (i : Nat) (h : i < P) : hasL (rowT 0 T P) ((0 + i : Nat) : Int) = true := by
 unfold hasL
 rw [List.any_eq_true]
 exact ⟨(((0 + i : Nat) : Int), T), List.mem_map.2 ⟨i, List.mem_range.2 h, rfl⟩, by simp⟩
theorem askD_has (now : Int) (frm : Nat) (d : Snd) : ∀ k, (∀ i, i < k → hasL d.tm ((frm + i : Nat) : Int) = true) → askD now frm k d = d
 | 0, _ => rfl
 | k + 1, h => by
  unfold askD
  rw [askD_has now frm d k (fun i hi => h i (by omega)), if_neg (by rw [h k (by omega)]; simp)]
structure NewOk (d : Snd) (P q : Nat) : Prop where
 p0 : 1 ≤ P
 p4 : P ≤ 4
 q1 : 1 ≤ q
 pages : pagesN d.sz = P
 acked : d.acked = makeB (P + q)
 tries : d.tries = List.replicate (P + q) 0
 tm : d.tm = []
 back : 1 ≤ d.back
 phase : d.phase = 1
theorem NewOk.of (session : Int) (a : List (List Int)) (win back retry quota : Int) (hfit : fitsB (szs a) = true) (hb : 1 ≤ back) : NewOk (newD session a win back retry quota) (pagesN (szs a)) (chunksN (szs a)) := by
 obtain ⟨hl1, hl2, hnn, hsum⟩ := fits_parts hfit
 refine ⟨by unfold pagesN; omega, by unfold pagesN; omega, ?_, rfl, rfl, rfl, rfl, hb, rfl⟩
 have h5 : 1 ≤ (szs a).sum := by
  unfold fitsB at hfit
  simp only [decide_eq_true_eq] at hfit
  have hh := hfit.2.2.1
  have h6 := sum_take_le hnn 1
  cases hsz : szs a with
  | nil => rw [hsz] at hl1; simp at hl1
  | cons x r => rw [hsz] at hh h6; simp at hh h6 ⊢; omega
 unfold chunksN; omega
namespace NewOk
variable {d : Snd} {P q : Nat}
theorem none (h : NewOk d P q) : firstN d.acked (P + q) = 0 := by
 rw [h.acked]
 exact firstN_full (P + q) 0 (by omega) (by omega) (by have := h.p0; omega)
theorem open0 (h : NewOk d P q) : openD 0 d = RD d P q 0 := by
 have hp := h.p0
 have ht : d.tries.length = P + q := by rw [h.tries, List.length_replicate]
 have hr := askD_row 0 0 d h.tm P (by have := h.p4; omega) (fun i hi => by
  rw [h.acked]
  have := fullB_get (P + q) 0 (by omega) (0 + i)
  simpa [fullB] using this)
 unfold openD
 rw [ht, h.none, h.pages, if_pos (by omega), hr]
 unfold RD
 rw [← trS_zero, ← h.tries]
 rfl
theorem openS (h : NewOk d P q) (now : Int) (s : Nat) : openD now (RD d P q s) = RD d P q s := by
 have hp := h.p0
 have ht : (RD d P q s).tries.length = P + q := trS_length _ _ _ _
 have hn : firstN (RD d P q s).acked (P + q) = 0 := h.none
 have hpg : pagesN (RD d P q s).sz = P := h.pages
 unfold openD
 rw [ht, hn, hpg, if_pos (by omega)]
 exact askD_has now 0 (RD d P q s) P (fun i hi => hasL_rowT P _ i hi)
theorem wait (h : NewOk d P q) {now : Int} {s : Nat} (hn : now < TT d.back s) {ds : List KT} (hd : DueOf (RD d P q s).tm now ds) : tickL now ds { RD d P q s with tm := restL (RD d P q s).tm now } [] = (RD d P q s, []) := by
 have e : ds = [] := hd.none (fun x hx => by
  obtain ⟨i, _, rfl⟩ := mem_rowT hx
  exact hn)
 have e2 : restL (RD d P q s).tm now = (RD d P q s).tm := by
  unfold restL
  rw [List.filter_eq_self]
  intro x hx
  obtain ⟨i, _, rfl⟩ := mem_rowT hx
  simpa using hn
 rw [e, e2]
 rfl
theorem send (h : NewOk d P q) {now : Int} {s : Nat} (hn : TT d.back s = now) (hs : (s : Int) < d.retry) {ds : List KT} (hd : DueOf (RD d P q s).tm now ds) :
    tickL now ds { RD d P q s with tm := restL (RD d P q s).tm now } [] = (RD d P q (s + 1), (List.range P).map (fun i => ofG d i)) := by
 have e : ds = rowT 0 now P := by
  refine hd.unique ?_
  unfold RD
  rw [hn]
  exact rowT_due 0 now P
 have e2 : restL (RD d P q s).tm now = [] := by
  unfold RD
  rw [hn]
  exact rowT_rest 0 now P
 rw [e, e2]
 have := tickL_ret now now (TT d.back (s + 1)) d P q s hs (by show TT d.back s + pauseN d.back s = _; rw [hn]) h.p4 P 0 [] (by omega)
 simp only [List.nil_append] at this
 refine Eq.trans ?_ (this.trans ?_)
 ·rfl
 ·unfold rSt RD
  rw [trS_next]
  simp
theorem fail (h : NewOk d P q) {now : Int} {s : Nat} (hn : TT d.back s = now) (hs : (s : Int) = d.retry) {ds : List KT} (hd : DueOf (RD d P q s).tm now ds) :
    tickL now ds { RD d P q s with tm := restL (RD d P q s).tm now } [] = (endD (RD d P q s) 3 33, [gmOf d 8]) := by
 have e : ds = rowT 0 now P := by
  refine hd.unique ?_
  unfold RD
  rw [hn]
  exact rowT_due 0 now P
 have hp := h.p0
 obtain ⟨m, rfl⟩ : ∃ m, P = m + 1 := ⟨P - 1, by omega⟩
 rw [e]
 unfold rowT
 rw [List.range_succ_eq_map, List.map_cons]
 unfold tickL
 have ht : (RD d (m + 1) q s).tries.getD 0 0 = s := trS_getD (m + 1) q s 0 (by omega)
 rw [if_pos (by show d.retry ≤ (RD d (m + 1) q s).tries.getD 0 0; rw [ht]; omega)]
 rfl
end NewOk
theorem ofG_kind {d : Snd} {P : Nat} (h : pagesN d.sz = P) (i : Nat) (hi : i < P) : (ofG d i).kind = 1 := by
 unfold ofG
 rw [if_pos (by omega)]
end Go.Proofs.YtfkcpaahdlkcdaaGreat
namespace Go.Proofs.YtfkcpaahdlkcdaaGreat
open Go.RowKit
def RState (d : Snd) (P q i n : Nat) (la : Int) (dd : Snd) : Prop :=
 (dd.phase = 1 ∧ ∃ s : Nat, (s : Int) ≤ d.retry ∧ (i : Int) ≤ TT d.back s ∧ n = s * P ∧ dd = (if i = 0 then d else RD d P q s) ∧ (i = 0 → s = 0)) ∨
 (dd.phase = 3 ∧ dd.err = 33 ∧ dd.tm = [] ∧ (n : Int) = d.retry * P + 1 ∧ la = 8)
theorem RState.bound {d : Snd} {P q i n : Nat} {la : Int} {dd : Snd} (h : RState d P q i n la dd) (hP : P ≤ 4) (h1 : d.retry ≤ 1000) : n ≤ 4001 := by
 rcases h with ⟨_, s, hs, _, hn, _⟩ | ⟨_, _, _, hn, _⟩
 ·have := Nat.mul_le_mul (show s ≤ 1000 by omega) hP
  omega
 ·have : d.retry * (P : Int) ≤ 1000 * 4 := by
    rcases (show d.retry < 0 ∨ 0 ≤ d.retry by omega) with h0 | h0
    ·have := Int.mul_nonpos_of_nonpos_of_nonneg (Int.le_of_lt h0) (show (0 : Int) ≤ P by omega)
     omega
    ·exact Int.mul_le_mul h1 (by omega) (by omega) (by decide)
  omega
theorem RState.done {d : Snd} {P q i n : Nat} {la : Int} {dd : Snd} (h : RState d P q i n la dd) (hb : 1 ≤ d.back) {M : Int} (hM : d.retry * d.back = M) (hi : M < i) : dd.phase = 3 ∧ dd.err = 33 ∧ dd.tm = [] ∧ (n : Int) = d.retry * P + 1 ∧ la = 8 := by
 rcases h with ⟨_, s, hs, h1, _⟩ | h
 ·have h2 := TT_le (back := d.back) s
  have h3 : (s : Int) * d.back ≤ d.retry * d.back := Int.mul_le_mul_of_nonneg_right hs (by omega)
  omega
 ·exact h
theorem rtick {d : Snd} {P q : Nat} (hN : NewOk d P q) {g : Nat} {p : SP} {dd : Snd} {Fq G : Nat → Prop} {w : World} (hS : SAt g p dd Fq G w) {i n : Nat} {la : Int} (hr : RState d P q i n la dd) (hi : i ≤ 1000000) :
    Calls Tryz.prog 19 #[.pointer (some ⟨g, 0, none⟩), .int .i64 (i : Nat)] w fun e w' => ∃ A c rows Gr p' Fq' dd', e = .returned (.slice A rows.length c) ∧ p'.rt = p.rt ∧ SAt g p' dd' Fq' G w' ∧ GOut w.heap.size rows (.slice A rows.length c) Gr w' ∧ Keep (SF g p.rt Fq) w w' ∧ Grew Fq Fq' w ∧ (∀ x ∈ rows, x.1.kind = 1 ∨ x.1.kind = 8) ∧ RState d P q (i + 1) (n + rows.length) ((rows.map (fun x => x.1.kind)).getLastD la) dd' := by
 rcases hr with ⟨hp, s, hs, hi1, hn, hdd, hs0⟩ | ⟨hp, he, ht, hn, hl⟩
 ·refine (tick_calls hS hp i (by omega) (by omega)).mono ?_
  rintro e w' ⟨A, c, rows, Gr, p', Fq', ds, rfl, hdue, hrt, hS', hrows, hout, hK, hG, hdis⟩
  have ho : openD (i : Int) dd = RD d P q s := by
   by_cases h0 : i = 0
   ·subst h0
    rw [hdd, if_pos rfl, hs0 rfl]
    exact hN.open0
   ·rw [hdd, if_neg h0]
    exact hN.openS _ s
  rw [ho] at hdue hS' hrows
  have hmain : ∃ gs dd', tickL (i : Int) ds { RD d P q s with tm := restL (RD d P q s).tm i } [] = (dd', gs) ∧ (∀ x ∈ gs, x.kind = 1 ∨ x.kind = 8) ∧ RState d P q (i + 1) (n + gs.length) ((gs.map (fun x => x.kind)).getLastD la) dd' := by
   rcases (show (i : Int) < TT d.back s ∨ (i : Int) = TT d.back s by omega) with hlt | heq
   ·exact ⟨[], _, hN.wait hlt hdue, (fun x hx => by cases hx), .inl ⟨hN.phase, s, hs, by omega, hn, by rw [if_neg (by omega)], by omega⟩⟩
   ·by_cases hsr : (s : Int) < d.retry
    ·refine ⟨_, _, hN.send heq.symm hsr hdue, fun x hx => ?_, .inl ⟨hN.phase, s + 1, by omega, ?_, ?_, by rw [if_neg (by omega)], by omega⟩⟩
     ·obtain ⟨m, hm, rfl⟩ := List.mem_map.1 hx
      exact .inl (ofG_kind hN.pages m (List.mem_range.1 hm))
     ·have := TT_lt hN.back s
      omega
     ·rw [List.length_map, List.length_range, hn, Nat.succ_mul]
    ·have hse : (s : Int) = d.retry := by omega
     refine ⟨_, _, hN.fail heq.symm hse hdue, fun x hx => ?_, .inr ⟨rfl, rfl, rfl, ?_, rfl⟩⟩
     ·rw [List.mem_singleton.1 hx]; exact .inr rfl
     ·rw [← hse, hn]; simp
  obtain ⟨gs, dd', ht, hk, hR⟩ := hmain
  rw [ht] at hS' hrows
  have hrows2 : rows.map (fun x => x.1) = gs := hrows
  have hl : rows.length = gs.length := by
   have := congrArg List.length hrows2
   simpa using this
  have e : rows.map (fun x => x.1.kind) = gs.map (fun x => x.kind) := by rw [← hrows2, List.map_map]; rfl
  refine ⟨A, c, rows, Gr, p', Fq', dd', rfl, hrt, hS', hout, hK, hG, fun x hx => hk x.1 (by rw [← hrows2]; exact List.mem_map_of_mem hx), ?_⟩
  rw [hl, e]
  exact hR
 ·refine (tick_no hS (by omega) i).mono ?_
  rintro e w' ⟨rfl, rfl⟩
  exact ⟨none, 0, [], NoB, p, Fq, dd, rfl, rfl, hS, GOut.nil _ _, Keep.refl _ _, Grew.refl _ _, (fun x hx => by cases hx), .inr ⟨hp, he, ht, hn, hl⟩⟩
structure RW (W : World) (g rt : Nat) (X : Nat → Prop) (Φ : World → Prop) (Fq : Nat → Prop) (wr : World) : Prop where
 grow : Grow W wr
 sf : ∀ k, SF g rt Fq k → W.heap.size ≤ k
 foot : Foot Φ wr X
 dis : ∀ k, X k → ¬ SF g rt Fq k
theorem RW.step {W : World} {g rt : Nat} {X : Nat → Prop} {Φ : World → Prop} {Fq Fq' : Nat → Prop} {wr w' : World} (h : RW W g rt X Φ Fq wr) (hK : Keep (SF g rt Fq) wr w') (hG : Grew Fq Fq' wr) : RW W g rt X Φ Fq' w' :=
 ⟨h.grow.trans hK (fun i hi => .inr (h.sf i hi)), fun k hk => by
  rcases hk with e | e | e
  ·exact h.sf k (.inl e)
  ·exact h.sf k (.inr (.inl e))
  ·rcases hG k e with e | e
   ·exact h.sf k (.inr (.inr e))
   ·have := h.grow.size; omega, h.foot.keep hK h.dis, SF_new hG (fun k hk => ⟨h.dis k hk, h.foot.lt hk⟩)⟩
theorem RW.later {W : World} {g rt : Nat} {X : Nat → Prop} {Φ : World → Prop} {Fq : Nat → Prop} {wr w' : World} (h : RW W g rt X Φ Fq wr) (hg : Grow wr w') : RW W g rt X Φ Fq w' := ⟨h.grow.grow hg, h.sf, h.foot.grow hg, h.dis⟩
theorem lastD_take {rows : List GRow} {la : Int} (m : Nat) (h : m < rows.length) : ((rows.take (m + 1)).map (fun x => x.1.kind)).getLastD la = rows[m].1.kind := by
 rw [List.take_succ_eq_append_getElem h, List.map_append]
 simp
theorem sendRetries_calls (session : Int) (A : Option Addr) (c : Nat) (l : List Int) (k j : Int) (W : World) (h : SliceR 1 (.slice A l.length c) l.length (u8s l) W) (hu : okU l) (hs0 : 0 ≤ session) (hs1 : session ≤ 18446744073709551615) (hk : 0 ≤ k ∧ k ≤ 255) (hj : 0 ≤ j ∧ j ≤ 255) :
    Calls Tryz.prog 3 #[.int .u64 session, .slice A l.length c, .int .u8 k, .int .u8 j] W fun e w' => e = .returned (.bool true) ∧ Grow W w' := by
 by_cases hlen : 100 < l.length
 ·have hgt : (100 : Int) < ((l.length : Nat) : Int) := by omega
  clear h hu hk hj
  go_enter Tryz.func3, Tryz.ntmps3
  go_wp2_with fail
  refine (known_true _).mono ?_
  rintro e w1 ⟨rfl, hg⟩
  have HG := LH hg
  clear hg
  go_wp2
  go_ret
  exact ⟨rfl, HG.out⟩
 have hgt : ¬ ((100 : Int) < ((l.length : Nat) : Int)) := by omega
 have HH := LH h
 have HU := LH hu
 have HLN : Hid (l.length ≤ 100) := LH (by omega)
 have HKJ := LH (And.intro hk hj)
 have HS01 := LH (And.intro hs0 hs1)
 clear h hu hk hj hlen hs0 hs1
 go_enter Tryz.func3, Tryz.ntmps3
 go_wp2_with fail
 refine (config_calls k j _ HKJ.out.1 HKJ.out.2).mono ?_
 rintro e w2 ⟨rfl, hg⟩
 have hgc := (Keep.refl NoB w2).alloc (.cells #[.int .i64 (1 + k % 5), .int .i64 (1 + k / 16), .int .i64 (1 + j % 40), .int .i64 1048576] 26)
 have HCG := LH (heap_alloc_new w2 (.cells #[.int .i64 (1 + k % 5), .int .i64 (1 + k / 16), .int .i64 (1 + j % 40), .int .i64 1048576] 26))
 have HZ2 : Hid (W.heap.size ≤ w2.heap.size) := LH hg.size
 have HG := LH (hg.grow hgc)
 have HBT := LH (bent_calls l A c k (w2.alloc (.cells #[.int .i64 (1 + k % 5), .int .i64 (1 + k / 16), .int .i64 (1 + j % 40), .int .i64 1048576] 26)) (HH.out.grow HG.out) HLN.out HU.out HKJ.out.1.1 HKJ.out.1.2)
 clear hg hgc
 have HCF := LH (config_ok k j HKJ.out.1 HKJ.out.2)
 go_wp2_with fail
 refine HBT.out.mono ?_
 rintro e w1 ⟨a, Aa, ca, rfl, hg, hoa, hrows⟩
 have HO := LH hoa
 have HR := LH hrows.foot
 have HZ1 : Hid (w2.heap.size < w1.heap.size) := LH (by have := hg.size; simp at this; omega)
 replace HG := LH (HG.out.grow hg)
 replace HCG := LH (Grow.heap hg HCG.out)
 clear hg hoa hrows HBT
 have x0 : w1.cell? ⟨w2.heap.size, 0, none⟩ = _ := World.news_of_block HCG.out 0 _ rfl
 have x1 : w1.cell? ⟨w2.heap.size, 1, none⟩ = _ := World.news_of_block HCG.out 1 _ rfl
 have x2 : w1.cell? ⟨w2.heap.size, 2, none⟩ = _ := World.news_of_block HCG.out 2 _ rfl
 have x3 : w1.cell? ⟨w2.heap.size, 3, none⟩ = _ := World.news_of_block HCG.out 3 _ rfl
 go_wp2_with fail
 by_cases hchk : checkP a = 0
 case neg =>
  refine (snew_err session a HO.out hchk HCF.out Aa ca _ HR.out.now).mono ?_
  rintro e w3 ⟨rfl, hg⟩
  replace HG := LH (HG.out.grow hg)
  replace HR := LH (HR.out.grow hg)
  have hcb : (checkP a != 0) = true := by simp [hchk]
  clear hg hchk x0 x1 x2 x3
  go_wp2_with fail
  refine (known_true _).mono ?_
  rintro e w4 ⟨rfl, hg⟩
  replace HG := LH (HG.out.grow hg)
  replace HR := LH (HR.out.grow hg)
  have hcr := qcheck_calls a HO.out Aa ca w4 HR.out.now
  have hrange := checkP_in a
  have hr0 := hrange.1
  have hr1 := hrange.2
  have HCR := LH hcr
  clear hg hcr hrange
  go_wp2_with fail
  refine HCR.out.mono ?_
  rintro e w5 ⟨rfl, hg⟩
  replace HG := LH (HG.out.grow hg)
  clear hg HCR
  go_wp2
  go_ret
  exact ⟨rfl, HG.out⟩
 refine (snew_calls session HS01.out.1 HS01.out.2 a HO.out hchk HCF.out Aa ca _ HR.out.now).mono ?_
 rintro e w3 ⟨g, p, Fq, G, rfl, hS, hg, hsf, _⟩
 have hfit := check_fit hchk
 have HFIT := LH hfit
 have HFL : Hid (a.flatten.length ≤ 1000000) := LH (by have := fit_flat hfit; omega)
 obtain ⟨d, hd⟩ : ∃ d, newD session a (1 + k % 5) (1 + k / 16) (1 + j % 40) 1048576 = d := ⟨_, rfl⟩
 rw [hd] at hS
 have HD := LH hd
 have HS := LH hS
 have HS3 := LH hS
 have HSF : Hid (∀ k, SF g p.rt Fq k → w2.heap.size < k) := LH (fun k hk => by have := hsf k hk; have := HZ1.out; omega)
 replace HG := LH (HG.out.grow hg)
 replace HR := LH (HR.out.grow hg)
 replace HCG := LH (Grow.heap hg HCG.out)
 clear hS hg hsf hd hchk hfit x0 x1 x2 x3
 go_wp2_with fail
 refine (rmof_calls session HS01.out.1 HS01.out.2 a HO.out HFIT.out HFL.out Aa ca w3 HR.out.now).mono ?_
 rintro e w4 ⟨Am, cm, rfl, hg, hSm, Fm, hFm, hFm2⟩
 have hgm := (Keep.refl NoB w4).alloc (.cells #[.int .u64 session, .slice Am (szs a).length cm, .int .u32 (sumP session a : Nat)] 40)
 have HMC := LH (heap_alloc_new w4 (.cells #[.int .u64 session, .slice Am (szs a).length cm, .int .u32 (sumP session a : Nat)] 40))
 have hg34 := hg.grow hgm
 have HMS := LH (hSm.grow hgm)
 have HNSM : Hid (¬ SF g p.rt Fq w4.heap.size) := LH (fun hk => by have h1 := HS.out.small _ hk; have := hg.size; omega)
 replace HG := LH (HG.out.grow hg34)
 replace HR := LH (HR.out.grow hg34)
 replace HS := LH (HS.out.grow hg34)
 replace HCG := LH (Grow.heap hg34 HCG.out)
 obtain ⟨m0, m1, m2, mf⟩ := cells3 HMC.out
 have HP4 : Hid (1 ≤ pagesN (szs a) ∧ pagesN (szs a) ≤ 4) := LH (by have := fits_parts HFIT.out; unfold pagesN; omega)
 have HNW : Hid (NewOk d (pagesN (szs a)) (chunksN (szs a))) := LH (by rw [← HD.out]; exact NewOk.of session a _ _ _ _ HFIT.out HCF.out.back1)
 have HRT : Hid (d.retry = 1 + j % 40 ∧ d.back = 1 + k / 16) := LH (by rw [← HD.out]; exact ⟨rfl, rfl⟩)
 have HRW : Hid (RW W g p.rt (fun b => b = w2.heap.size ∨ b = w4.heap.size ∨ Fm b) (fun u => u.heap[w2.heap.size]? = some (.cells #[.int .i64 (1 + k % 5), .int .i64 (1 + k / 16), .int .i64 (1 + j % 40), .int .i64 1048576] 26 (0, 0)) ∧ u.heap[w4.heap.size]? = some (.cells #[.int .u64 session, .slice Am (szs a).length cm, .int .u32 (sumP session a : Nat)] 40 (0, 0)) ∧ SliceR 1 (.slice Am (szs a).length cm) (szs a).length (ints (szs a)) u) Fq (w4.alloc (.cells #[.int .u64 session, .slice Am (szs a).length cm, .int .u32 (sumP session a : Nat)] 40))) := LH ⟨HG.out, fun b hb => by have h1 := HSF.out b hb; have h2 := HZ2.out; omega, ⟨fun b hb => by
     rcases hb with e | e | e
     ·rw [e]; exact (gE HCG.out).1
     ·rw [e]; exact (gE HMC.out).1
     ·exact Nat.lt_of_lt_of_le (hFm.lt e) hgm.size, fun W' hW => ⟨(hW _ (.inl rfl)).trans HCG.out, (hW _ (.inr (.inl rfl))).trans HMC.out, (hFm.grow hgm).2 W' (fun b hb => hW b (.inr (.inr hb)))⟩⟩, fun b hb hs => by
     rcases hb with e | e | e
     ·have := HSF.out b hs; omega
     ·rw [e] at hs; exact HNSM.out hs
     ·have h1 := HS3.out.small b hs; have h2 := hFm2 b e; omega⟩
 have HST : Hid (RState d (pagesN (szs a)) (chunksN (szs a)) 0 0 0 d) := LH (.inl ⟨HNW.out.phase, 0, by have := HRT.out.1; have := HCF.out.retry1; omega, Int.le_refl _, by simp, by simp, fun _ => rfl⟩)
 obtain ⟨M, hM⟩ : ∃ M : Nat, (1 + j % 40) * (1 + k / 16) = (M : Int) := ⟨((1 + j % 40) * (1 + k / 16)).toNat, by
  have := Int.mul_nonneg (show 0 ≤ 1 + j % 40 by have := HCF.out.retry1; omega) (show 0 ≤ 1 + k / 16 by have := HCF.out.back1; omega)
  omega⟩
 have hM9 : M ≤ 64000 := by
  have := Int.mul_le_mul (show 1 + j % 40 ≤ 1000 from HCF.out.retry2) (show 1 + k / 16 ≤ 64 from HCF.out.back2) (by have := HCF.out.back1; omega) (by decide)
  omega
 have HM := LH hM
 have HKX : Hid (0 ≤ j % 40 ∧ j % 40 ≤ 39 ∧ 0 ≤ k / 16 ∧ k / 16 ≤ 15) := LH (by have := HKJ.out; omega)
 clear hM hg hgm hg34 hSm hFm hFm2 m0 m1 m2 mf HG HR HCG HMC HMS HSF HNSM HS3 HZ2 HD HO HFL HKJ HS01
 have hwm : IntKind.i64.wrap ((1 + j % 40) * (1 + k / 16)) = (M : Int) := by rw [HM.out]; exact IntWalk.i64_in _ (by omega)
 have hwm1 : IntKind.i64.wrap ((M : Int) + 1) = (M : Int) + 1 := IntWalk.i64_in _ (by omega)
 go_wp2_with fail
 go_loopw [15, 16, 17, 18, 19] (fun vn vl v v18 v19 wr => ∃ (i n : Nat) (la : Int), i ≤ M + 2 ∧ vn = .int .i64 n ∧ vl = .int .i64 la ∧ v = .int .i64 i ∧ ∃ p' Fq' dd, Hid (p'.rt = p.rt ∧ SAt g p' dd Fq' G wr ∧ RW W g p.rt (fun b => b = w2.heap.size ∨ b = w4.heap.size ∨ Fm b) (fun u => u.heap[w2.heap.size]? = some (.cells #[.int .i64 (1 + k % 5), .int .i64 (1 + k / 16), .int .i64 (1 + j % 40), .int .i64 1048576] 26 (0, 0)) ∧ u.heap[w4.heap.size]? = some (.cells #[.int .u64 session, .slice Am (szs a).length cm, .int .u32 (sumP session a : Nat)] 40 (0, 0)) ∧ SliceR 1 (.slice Am (szs a).length cm) (szs a).length (ints (szs a)) u) Fq' wr ∧ RState d (pagesN (szs a)) (chunksN (szs a)) i n la dd)) (fun _ _ v _ _ _ => M + 3 - (intOf v).toNat)
 case atStart => exact ⟨0, 0, 0, by omega, rfl, rfl, rfl, p, Fq, d, LH ⟨rfl, HS.out, HRW.out, HST.out⟩⟩
 case round =>
  obtain ⟨i, n, la, hi, rfl, rfl, rfl, p', Fq', dd, HR⟩ := hrel
  have hcfg := HR.out.2.2.1.foot.now.1
  have x1 : wr.cell? ⟨w2.heap.size, 1, none⟩ = _ := World.news_of_block hcfg 1 _ rfl
  have x2 : wr.cell? ⟨w2.heap.size, 2, none⟩ = _ := World.news_of_block hcfg 2 _ rfl
  clear hcfg
  by_cases hil : i < M + 2
  ·have hil' : (i : Int) ≤ (M : Int) + 1 := by omega
   have hwi : IntKind.i64.wrap ((i : Int) + 1) = (i : Int) + 1 := IntWalk.i64_in _ (by omega)
   have HTK := LH (rtick HNW.out HR.out.2.1 HR.out.2.2.2 (by omega))
   clear hi
   go_wp2_with fail
   refine HTK.out.mono ?_
   rintro e w8 ⟨A8, c8, rows, Gr, p8, F8, d8, rfl, hrt8, hS8, hout, hK8, hG8, hkd, hR8⟩
   have hb := hR8.bound HP4.out.2 (by rw [HRT.out.1]; exact HCF.out.retry2)
   have hK9 := hK8
   rw [HR.out.1] at hK9
   have HN8 := LH (And.intro (hrt8.trans HR.out.1) (And.intro hS8 (And.intro (HR.out.2.2.1.step hK9 hG8) hR8)))
   have HOUT := LH hout
   have HKD := LH hkd
   have hil2 := hil
   clear hrt8 hS8 hout hK8 hK9 hG8 hkd hR8 HTK x1 x2 hil'
   go_wp2_with fail
   go_loopw [15, 16, 19] (fun vn vl v wr => wr = w8 ∧ ∃ (m : Nat) (x : Int), m ≤ rows.length ∧ v = .int .i64 m ∧ vn = .int .i64 (n + m : Nat) ∧ vl = .int .i64 x ∧ Hid (x = ((rows.take m).map (fun x => x.1.kind)).getLastD la)) (fun _ _ v _ => rows.length - (intOf v).toNat)
   case atStart => exact ⟨rfl, 0, la, by omega, rfl, rfl, rfl, LH (by simp)⟩
   case round =>
    obtain ⟨rfl, m, x, hm, rfl, rfl, rfl, HX⟩ := hrel
    by_cases hml : m < rows.length
    ·have hml' : (m : Int) < rows.length := by omega
     have hwm2 : IntKind.i64.wrap ((m : Int) + 1) = (m : Int) + 1 := IntWalk.i64_in _ (by omega)
     have hwn2 : IntKind.i64.wrap (((n + m : Nat) : Int) + 1) = ((n + m : Nat) : Int) + 1 := IntWalk.i64_in _ (by omega)
     obtain ⟨r, hAr, y0, y1, y2, y3, y4, y5, y6⟩ := HOUT.out.at_ m hml
     rw [Nat.mul_comm 7 m] at y0
     have hl8 := lastD_take (la := la) m hml
     have hk8 := HKD.out rows[m] (List.getElem_mem hml)
     generalize rows[m].1.kind = kd at y0 hl8 hk8
     have HL8 := LH hl8
     subst hAr
     clear y1 y2 y3 y4 y5 y6 hl8 HX
     rcases hk8 with rfl | rfl
     all_goals
      go_wp2
      go_roundw
      case rel => exact ⟨trivial, m + 1, _, by omega, by go_num, by go_num, rfl, LH HL8.out.symm⟩
      case measure => simp [intOf]; omega
    ·obtain rfl : m = rows.length := by omega
     have hml' : ¬ ((rows.length : Int) < rows.length) := by omega
     have hx := HX.out
     rw [List.take_length] at hx
     have HX2 := LH hx
     clear HX hx
     go_wp2
     go_roundw
     case rel => exact ⟨i + 1, n + rows.length, x, by omega, by go_num, rfl, by go_num, p8, F8, d8, LH ⟨HN8.out.1, HN8.out.2.1, HN8.out.2.2.1, by rw [HX2.out]; exact HN8.out.2.2.2⟩⟩
     case measure => simp [intOf]; omega
  ·obtain rfl : i = M + 2 := by omega
   have hil' : ¬ (((M + 2 : Nat) : Int) ≤ (M : Int) + 1) := by omega
   have hdn := RState.done (M := (M : Int)) HR.out.2.2.2 (by rw [HRT.out.2]; exact HCF.out.back1) (by rw [HRT.out.1, HRT.out.2]; exact HM.out) (by omega)
   obtain ⟨hph, her, htm, hnn, rfl⟩ := hdn
   rw [HRT.out.1] at hnn
   have HDN := LH (And.intro hph (And.intro her htm))
   obtain ⟨N0, hN0⟩ : ∃ N0 : Int, (1 + j % 40) * (pagesN (szs a) : Int) = N0 := ⟨_, rfl⟩
   have hN01 : 0 ≤ N0 ∧ N0 ≤ 4000 := by
    rw [← hN0]
    have h1 := HCF.out.retry1
    have h2 := HCF.out.retry2
    have h3 := HP4.out
    have h4 : (pagesN (szs a) : Int) ≤ 4 := by omega
    exact ⟨Int.mul_nonneg (by omega) (by omega), Int.le_trans (Int.mul_le_mul h2 h4 (by omega) (by decide)) (by decide)⟩
   rw [hN0] at hnn
   have hwp : IntKind.i64.wrap ((1 + j % 40) * (pagesN (szs a) : Int)) = N0 := by rw [hN0]; exact IntWalk.i64_in _ (by omega)
   have hwq : IntKind.i64.wrap (N0 + 1) = N0 + 1 := IntWalk.i64_in _ (by omega)
   have hnb : ((n : Int) == N0 + 1) = true := by rw [beq_iff_eq]; exact hnn
   clear hph her htm hnn hN0 hN01 hi hil hwm1
   go_wp2
   clear x1 x2 hwm
   refine region_ord [0, 1, 2, 3, 4, 5, 6, 7, 8, 9, 10, 11, 12, 13, 14, 15, 16, 17, 18, 19, 20, 21, 22, 23, 24, 25, 26, 27, 28, 29, 30, 31, 32] [0, 3, 9, 22, 29, 32] [20, 21] [] rfl (by kernel_rfl) ?_
   refine ord_call rfl rfl rfl rfl rfl Tryz.func13 rfl rfl [] rfl ?_
   refine (known_true _).mono ?_
   rintro e w9 ⟨rfl, hg⟩
   refine ⟨_, rfl, fun _ => hg, ?_⟩
   have hg9 := (Keep.refl NoB wr).drew.grow hg
   have HS9 := LH (HR.out.2.1.grow hg9)
   have HW9 := LH (HR.out.2.2.1.later hg9)
   clear hg hg9
   simp only [Act.put, pB, pC, pD]
   refine ord_pure rfl rfl rfl rfl rfl (fun _ _ _ _ h => h) ?_ ?_ ?_ ?_ ?_
   rotate_left 2
   ·intro w'; go_simp; with_reducible rfl
   ·simp only [Act.put, pB, pC, pD]; rfl
   refine ord_pureG rfl rfl rfl rfl rfl (fun _ _ _ _ h => h) ?_ ?_ ?_ ?_ ?_
   rotate_left 2
   ·intro w'; go_simp; with_reducible rfl
   ·simp only [Act.put, pB, pC, pD]; rfl
   refine ord_callG rfl rfl rfl rfl rfl Tryz.func20 rfl rfl [.pointer (some ⟨g, 0, none⟩)] rfl ?_
   refine (status_calls HS9.out).mono ?_
   rintro e w10 ⟨rfl, hg⟩
   refine ⟨_, rfl, fun _ => hg, ?_⟩
   rw [HDN.out.1, HDN.out.2.1]
   have f0 := st_0
   have f1 := st_1
   replace HS9 := LH (HS9.out.grow hg)
   replace HW9 := LH (HW9.out.later hg)
   clear hg
   simp only [Act.put, pB, pC, pD]
   iterate 2
    refine ord_pureG rfl rfl rfl rfl rfl (fun _ _ _ _ h => h) ?_ ?_ ?_ ?_ ?_
    rotate_left 2
    ·intro w'; go_simp; with_reducible rfl
    ·simp only [Act.put, pB, pC, pD]; rfl
   iterate 2
    refine ord_pure rfl rfl rfl rfl rfl (fun _ _ _ _ h => h) ?_ ?_ ?_ ?_ ?_
    rotate_left 2
    ·intro w'; go_simp; with_reducible rfl
    ·simp only [Act.put, pB, pC, pD]; rfl
   refine ord_pureG rfl rfl rfl rfl rfl (fun _ _ _ _ h => h) ?_ ?_ ?_ ?_ ?_
   rotate_left 2
   ·intro w'; go_simp; with_reducible rfl
   ·simp only [Act.put, pB, pC, pD]; rfl
   refine ord_callG rfl rfl rfl rfl rfl Tryz.func20 rfl rfl [.pointer (some ⟨g, 0, none⟩)] rfl ?_
   refine (status_calls HS9.out).mono ?_
   rintro e w11 ⟨rfl, hg⟩
   refine ⟨_, rfl, fun _ => hg, ?_⟩
   rw [HDN.out.1, HDN.out.2.1]
   replace HS9 := LH (HS9.out.grow hg)
   replace HW9 := LH (HW9.out.later hg)
   clear hg
   simp only [Act.put, pB, pC, pD]
   iterate 2
    refine ord_pureG rfl rfl rfl rfl rfl (fun _ _ _ _ h => h) ?_ ?_ ?_ ?_ ?_
    rotate_left 2
    ·intro w'; go_simp; with_reducible rfl
    ·simp only [Act.put, pB, pC, pD]; rfl
   iterate 2
    refine ord_pure rfl rfl rfl rfl rfl (fun _ _ _ _ h => h) ?_ ?_ ?_ ?_ ?_
    rotate_left 2
    ·intro w'; go_simp; with_reducible rfl
    ·simp only [Act.put, pB, pC, pD]; rfl
   iterate 2
    refine ord_pureG rfl rfl rfl rfl rfl (fun _ _ _ _ h => h) ?_ ?_ ?_ ?_ ?_
    rotate_left 2
    ·intro w'; go_simp; with_reducible rfl
    ·simp only [Act.put, pB, pC, pD]; rfl
   iterate 2
    refine ord_pure rfl rfl rfl rfl rfl (fun _ _ _ _ h => h) ?_ ?_ ?_ ?_ ?_
    rotate_left 2
    ·intro w'; go_simp; with_reducible rfl
    ·simp only [Act.put, pB, pC, pD]; rfl
   clear f0 f1
   obtain ⟨hcfg, hman, hsl⟩ := HW9.out.foot.now
   have HSL := LH hsl
   have x2 : w11.cell? ⟨w2.heap.size, 2, none⟩ = _ := World.news_of_block hcfg 2 _ rfl
   obtain ⟨m0, m1, m2, mf⟩ := cells3 hman
   clear hcfg hman hsl
   iterate 2
    refine ord_pureG rfl rfl rfl rfl rfl (fun _ _ _ _ h => h) ?_ ?_ ?_ ?_ ?_
    rotate_left 2
    ·intro w'; go_simp; with_reducible rfl
    ·simp only [Act.put, pB, pC, pD]; rfl
   refine ord_readG rfl rfl rfl rfl rfl (fun _ _ _ _ h => h) ?_ ?_ ?_ ?_ ?_
   rotate_left 2
   ·intro w' hg; have q := hg.cell x2 (fun h => h); go_simp; with_reducible rfl
   ·simp only [Act.put, pB, pC, pD]; rfl
   refine ord_readG rfl rfl rfl rfl rfl (fun _ _ _ _ h => h) ?_ ?_ ?_ ?_ ?_
   rotate_left 2
   ·intro w' hg; have q0 := hg.cell m0 (fun h => h); have q1 := hg.cell m1 (fun h => h); have q2 := hg.cell m2 (fun h => h); go_simp; with_reducible rfl
   ·simp only [Act.put, pB, pC, pD]; rfl
   clear x2 m0 m1 m2 mf
   refine ord_callG rfl rfl rfl rfl rfl Tryz.func21 rfl rfl [.agg #[.int .u64 session, .slice Am (szs a).length cm, .int .u32 (sumP session a : Nat)]] rfl ?_
   refine (rmpages_calls session (sumP session a : Nat) (szs a) Am cm _ HSL.out HFIT.out).mono ?_
   rintro e w12 ⟨rfl, hg⟩
   refine ⟨_, rfl, fun _ => hg, ?_⟩
   replace HS9 := LH (HS9.out.grow hg)
   replace HW9 := LH (HW9.out.later hg)
   clear hg HSL
   simp only [Act.put, pB, pC, pD]
   iterate 3
    refine ord_pureG rfl rfl rfl rfl rfl (fun _ _ _ _ h => h) ?_ ?_ ?_ ?_ ?_
    rotate_left 2
    ·intro w'; go_simp; with_reducible rfl
    ·simp only [Act.put, pB, pC, pD]; rfl
   iterate 2
    refine ord_pure rfl rfl rfl rfl rfl (fun _ _ _ _ h => h) ?_ ?_ ?_ ?_ ?_
    rotate_left 2
    ·intro w'; go_simp; with_reducible rfl
    ·simp only [Act.put, pB, pC, pD]; rfl
   refine ord_pureG rfl rfl rfl rfl rfl (fun _ _ _ _ h => h) ?_ ?_ ?_ ?_ ?_
   rotate_left 2
   ·intro w'; go_simp; with_reducible rfl
   ·simp only [Act.put, pB, pC, pD]; rfl
   refine ord_callG rfl rfl rfl rfl rfl Tryz.func22 rfl rfl [.pointer (some ⟨g, 0, none⟩)] rfl ?_
   refine (waits_calls HS9.out).mono ?_
   rintro e w13 ⟨rfl, rfl⟩
   refine ⟨_, rfl, fun _ => Keep.refl _ _, ?_⟩
   rw [HDN.out.2.2]
   simp only [Act.put, pB, pC, pD]
   refine ord_pureG rfl rfl rfl rfl rfl (fun _ _ _ _ h => h) ?_ ?_ ?_ ?_ ?_
   rotate_left 2
   ·intro w'; go_simp; with_reducible rfl
   ·simp only [Act.put, pB, pC, pD]; rfl
   refine ord_pure rfl rfl rfl rfl rfl (fun _ _ _ _ h => h) ?_ ?_ ?_ ?_ ?_
   rotate_left 2
   ·intro w'; go_simp; with_reducible rfl
   ·simp only [Act.put, pB, pC, pD]; rfl
   refine ord_set rfl rfl rfl rfl ?_ ?_ ?_ ?_ ?_
   rotate_left 2
   ·go_simp; with_reducible rfl
   ·simp only [Act.put, pB, pC, pD]; rfl
   refine ord_nil ?_
   go_wp2
   go_ret
   exact ⟨rfl, HW9.out.grow⟩
end Go.Proofs.YtfkcpaahdlkcdaaGreat
namespace Go.Proofs.YtfkcpaahdlkcdaaGreat
open Go.ChangeShapes Go.WideShapes Go.ChangeAt Go.RowKit
open Go.Deep (intRow boolRow open_int_rows open_bools)
def BssR (A : Option Addr) (ls : List (List Int)) (w : World) : Prop :=
 ∀ i (h : i < ls.length), ∃ ad A' c', A = some ad ∧ w.cell? (ad.add i) = some (.slice A' ls[i].length c') ∧ ls[i].length ≤ c' ∧ c' ≤ maxLen ∧ SliceR 1 (.slice A' ls[i].length c') ls[i].length (u8s ls[i]) w
theorem BssR.grow {A : Option Addr} {ls : List (List Int)} {w w' : World} (h : BssR A ls w) (hk : Grow w w') : BssR A ls w' := fun i hi => by
 obtain ⟨ad, A', c', h1, h2, h3, h4, h5⟩ := h i hi
 exact ⟨ad, A', c', h1, hk.cell h2 (fun h => h), h3, h4, h5.grow hk⟩
theorem SliceR.take {A : Option Addr} {n c m : Nat} {l : List Int} {w : World} (h : SliceR 1 (.slice A n c) n (u8s l) w) (hm : m ≤ n) : SliceR 1 (.slice A m c) m (u8s (l.take m)) w := by
 obtain ⟨A', c', e, h1, h2, h3, h4⟩ := h
 injection e with e1 e2 e3
 subst e1
 subst e3
 have hl : l.length = n := by simpa using h2
 refine ⟨A, c, rfl, by omega, by simp; omega, h3, fun j u hu => h4 j u ?_⟩
 rw [u8s, List.map_take, List.getElem?_take] at hu
 split at hu
 ·exact hu
 ·cases hu
theorem SliceR.cell {A : Option Addr} {n c : Nat} {vs : List Value} {w : World} (h : SliceR 1 (.slice A n c) n vs w) (i : Nat) (hi : i < vs.length) : ∃ ad, A = some ad ∧ w.cell? (ad.add i) = some vs[i] := by
 obtain ⟨A', c', e, h1, h2, h3, h4⟩ := h
 injection e with e1 e2 e3
 subst e1
 exact h4 i _ (List.getElem?_eq_getElem hi)
theorem arg_ints {H : Type} {enc : TypeId × Value → H} {W : World} {held : Bool} {a : Option Addr} {len cap : Nat} {d : DataW H} {ps : List MemPlace} {ts : List TypeId} {ds : List (DataW H)} {j t e B : Nat} {k : IntKind}
    (hu : Tryz.prog.underlying t = some (.slice e)) (he : Tryz.prog.underlying e = some (.int k)) (hc1 : Tryz.prog.cellsOf e = 1) (hB : Tryz.prog.bytesOf e = B)
    (hsz : (DataW.weightsEach Tryz.prog ts ds).all (· ≤ reachBytes) = true) (ht : ts[j]? = some t) (hd : ds[j]? = some d)
    (h : DataW.Trod enc Tryz.prog W 0 (fun _ => true) held t (.slice a len cap) d ps) :
    ∃ l : List Int, SliceR 1 (.slice a l.length cap) l.length (l.map (Value.int k)) W ∧ l.length = len ∧ cap ≤ maxLen ∧ l.length * B ≤ 140737488351232 ∧ ∀ x ∈ l, (Lit.int k x).wf = true := by
 obtain ⟨fuel, hf⟩ := h
 rcases open_ints hu he hc1 hf with ⟨hcs, _⟩ | ⟨x, l, c, zs, hcs, _, hl, hm, hz, hx, hcell, hwz⟩
 ·simp [Value.cells] at hcs
  obtain ⟨rfl, rfl, rfl⟩ := hcs
  exact ⟨[], ⟨none, 0, rfl, Nat.le_refl _, rfl, fun _ => rfl, fun j u hu => by simp at hu⟩, rfl, Nat.zero_le _, by simp, fun x hx => by cases hx⟩
 ·simp [Value.cells] at hcs
  obtain ⟨rfl, rfl, rfl⟩ := hcs
  have hz' : zs.length = cap := by simpa using hz
  have hlen : (zs.take len).length = len := by rw [List.length_take]; omega
  obtain ⟨hx, _⟩ := Prod.mk.inj hx
  subst hx
  have z := sized_slice hsz ht hd hu
  rw [hB] at z
  have h1 : (lits (H := H) k (zs.take len)).length + (lits (H := H) k (zs.drop len)).length = zs.length := by
   simp [lits]
   omega
  rw [h1] at z
  have h10 : reachBytes = 140737488351232 := by decide
  refine ⟨zs.take len, ?_, hlen, hm, ?_, fun x hx => hwz x (List.mem_of_mem_take hx)⟩
  ·rw [hlen]
   refine ⟨some x, cap, rfl, hl, by simp; omega, (fun e => by cases e), fun j u hu => ⟨x, rfl, ?_⟩⟩
   have hj : j < len := by
    rcases Nat.lt_or_ge j len with h | h
    ·exact h
    ·rw [List.getElem?_eq_none (by simp; omega)] at hu; cases hu
   rw [hcell j (by omega)]
   rw [List.getElem?_map, List.getElem?_take, if_pos hj] at hu
   rw [List.getD_eq_getElem?_getD]
   rw [List.getElem?_eq_getElem (by omega)] at hu ⊢
   simpa using hu
  ·rw [hlen, ← h10]
   exact Nat.le_trans (Nat.mul_le_mul_right _ (by omega)) z
end Go.Proofs.YtfkcpaahdlkcdaaGreat
