import Derived.Test.YtfkcpaahdlkcdaaGreatRRecvQuota16
set_option linter.unusedSimpArgs false
set_option linter.unusedVariables false
set_option maxRecDepth 100000
set_option maxHeartbeats 16000000
namespace Go.Proofs.YtfkcpaahdlkcdaaGreat
open Go.RowKit
def RC.hearing (d : RC) (of : Nat) (s : Int) (m : Nat) : RC := { d with phase := 1, session := s, sum := m, of := of, h0 := false, h1 := false, h2 := false, h3 := false, z0 := ⟨none, 0, 0⟩, z1 := ⟨none, 0, 0⟩, z2 := ⟨none, 0, 0⟩, z3 := ⟨none, 0, 0⟩ }
def Hear (rc : RC) (ps : List (List Int)) (G : Nat → Prop) (w : World) : Prop := (∀ k, G k → k < w.heap.size) ∧ ∀ j (hj : j < ps.length), rc.h j = true → ∃ A c, rc.z j = ⟨A, ps[j].length, c⟩ ∧ Foot (SliceR 1 (.slice A ps[j].length c) ps[j].length (ints ps[j])) w G
theorem Hear.keep {rc : RC} {ps : List (List Int)} {G S : Nat → Prop} {w w' : World} (h : Hear rc ps G w) (hk : Keep S w w') (hG : ∀ k, G k → ¬ S k) : Hear rc ps G w' :=
 ⟨fun k hk' => Nat.lt_of_lt_of_le (h.1 k hk') hk.size, fun j hj hh => by
  obtain ⟨A, c, e, hf⟩ := h.2 j hj hh
  exact ⟨A, c, e, hf.keep hk hG⟩⟩
theorem Hear.none {rc : RC} {ps : List (List Int)} (hn : ∀ j, rc.h j = false) (w : World) : Hear rc ps NoB w := ⟨fun k hk => hk.elim, fun j hj hh => by rw [hn j] at hh; cases hh⟩
theorem RC.set_h (d : RC) (i : Nat) (hi : i < 4) (s : Sl) (j : Nat) (hj : j < 4) : ((d.setH i).setZ i s).h j = (if j = i then true else d.h j) ∧ ((d.setH i).setZ i s).z j = (if j = i then s else d.z j) :=
 four (P := fun i => ((d.setH i).setZ i s).h j = (if j = i then true else d.h j) ∧ ((d.setH i).setZ i s).z j = (if j = i then s else d.z j)) (four (P := fun j => ((d.setH 0).setZ 0 s).h j = (if j = 0 then true else d.h j) ∧ ((d.setH 0).setZ 0 s).z j = (if j = 0 then s else d.z j)) ⟨rfl, rfl⟩ ⟨rfl, rfl⟩ ⟨rfl, rfl⟩ ⟨rfl, rfl⟩ j hj)
  (four (P := fun j => ((d.setH 1).setZ 1 s).h j = (if j = 1 then true else d.h j) ∧ ((d.setH 1).setZ 1 s).z j = (if j = 1 then s else d.z j)) ⟨rfl, rfl⟩ ⟨rfl, rfl⟩ ⟨rfl, rfl⟩ ⟨rfl, rfl⟩ j hj)
  (four (P := fun j => ((d.setH 2).setZ 2 s).h j = (if j = 2 then true else d.h j) ∧ ((d.setH 2).setZ 2 s).z j = (if j = 2 then s else d.z j)) ⟨rfl, rfl⟩ ⟨rfl, rfl⟩ ⟨rfl, rfl⟩ ⟨rfl, rfl⟩ j hj)
  (four (P := fun j => ((d.setH 3).setZ 3 s).h j = (if j = 3 then true else d.h j) ∧ ((d.setH 3).setZ 3 s).z j = (if j = 3 then s else d.z j)) ⟨rfl, rfl⟩ ⟨rfl, rfl⟩ ⟨rfl, rfl⟩ ⟨rfl, rfl⟩ j hj) i hi
theorem RC.set_rest (d : RC) (i : Nat) (hi : i < 4) (s : Sl) : ((d.setH i).setZ i s) = { (d.setH i).setZ i s with part := d.part, win := d.win, back := d.back, retry := d.retry, quota := d.quota, st := d.st, phase := d.phase, err := d.err, session := d.session, sum := d.sum, of := d.of, resumed := d.resumed, closed := d.closed } :=
 four (P := fun i => ((d.setH i).setZ i s) = { (d.setH i).setZ i s with part := d.part, win := d.win, back := d.back, retry := d.retry, quota := d.quota, st := d.st, phase := d.phase, err := d.err, session := d.session, sum := d.sum, of := d.of, resumed := d.resumed, closed := d.closed }) rfl rfl rfl rfl i hi
theorem RC.setZ_h (d : RC) (i : Nat) (s : Sl) : (d.setZ i s).h = d.h := by unfold RC.setZ; split <;> rfl
theorem add_off (g o j : Nat) : (⟨g, o, none⟩ : Addr).add j = ⟨g, o + j, none⟩ := by unfold Addr.add; split <;> simp_all
theorem RCell.heardR {g : Nat} {d : RC} {w : World} (h : RCell g d w) (n : Nat) (hn : n ≤ 4) : SliceR 1 (.slice (some ⟨g, 11, none⟩) n 4) n (((List.range n).map d.h).map Value.bool) w := by
 refine ⟨_, _, rfl, hn, by simp, by simp, fun j u hj => ⟨_, rfl, ?_⟩⟩
 rw [add_off]
 have hjl : j < n := by have := (List.getElem?_eq_some_iff.1 hj).1; simpa using this
 have : u = .bool (d.h j) := by simp [hjl] at hj; exact hj.symm
 rw [this]
 exact h.h_cell j (by omega)
theorem RCell.pagesR {g : Nat} {d : RC} {w : World} (h : RCell g d w) {ps : List (List Int)} {G : Nat → Prop} (hH : Hear d ps G w) (hn : ps.length ≤ 4) (ha : ((List.range ps.length).map d.h).contains false = false) : RowsR .i64 ps (.slice (some ⟨g, 15, none⟩) ps.length 4) w := by
 refine ⟨_, _, rfl, fun j hj => ?_⟩
 have hh : d.h j = true := by
  by_cases h0 : d.h j = true
  ·exact h0
  ·rw [List.contains_eq_mem] at ha
   simp only [decide_eq_false_iff_not] at ha
   exact absurd (List.mem_map.2 ⟨j, List.mem_range.2 hj, by simpa using h0⟩) ha
 obtain ⟨A, c, e, hf⟩ := hH.2 j hj hh
 refine ⟨_, A, c, rfl, ?_, hf.now⟩
 rw [add_off, h.z_cell j (by omega), e]
theorem Hear.more {rc : RC} {ps : List (List Int)} {G : Nat → Prop} {w : World} (h : Hear rc ps G w) (i : Nat) (hi : i < ps.length) (h4 : ps.length ≤ 4) {b : Nat} {A : Option Addr} {c : Nat} (ho : w.ownsRow b 3 1 (.slice A (ps[i]'hi).length c) (ps[i]'hi).length (ints (ps[i]'hi))) : Hear ((rc.setH i).setZ i ⟨A, (ps[i]'hi).length, c⟩) ps (fun k => G k ∨ (Value.slice A (ps[i]'hi).length c).ownBlock = some k) w := by
 have hlt : ∀ k, (G k ∨ (Value.slice A (ps[i]'hi).length c).ownBlock = some k) → k < w.heap.size := fun k hk => hk.elim (h.1 k) (fun e => (ho.lt k e).2)
 refine ⟨hlt, fun j hj hh => ?_⟩
 have hs := RC.set_h rc i (by omega) ⟨A, (ps[i]'hi).length, c⟩ j (by omega)
 by_cases e : j = i
 ·subst e
  refine ⟨A, c, by rw [hs.2, if_pos rfl], (Foot.of_own ho).mono hlt (fun k hk => .inr hk)⟩
 ·rw [hs.1, if_neg e] at hh
  obtain ⟨A0, c0, e0, hf⟩ := h.2 j hj hh
  exact ⟨A0, c0, by rw [hs.2, if_neg e, e0], hf.mono hlt (fun k hk => .inl hk)⟩
theorem info_pages : (Tryz.prog.info? 171).map (·.size) = some 9 := by kernel_rfl
theorem roffer_more1 {g : Nat} {rc : RC} {w : World} (h : RCell g rc w) (session : Int) (sum : Nat) (ps : List (List Int)) (h4 : ps.length ≤ 4) (hph : rc.phase = 1) (hpt : rc.part = none) (hof : rc.of = ps.length) (hses : rc.session = session) (hsum : rc.sum = sum) (i : Nat) (hi : i < ps.length) (hh : rc.h i = false) {G : Nat → Prop} (hH : Hear rc ps G w) (hgG : ¬ G g) (A1 : Option Addr) (c1' : Nat) (hs : SliceR 1 (.slice A1 (ps[i]'hi).length c1') (ps[i]'hi).length (ints (ps[i]'hi)) w) (hsl : (ps[i]'hi).length ≤ 4) (hsg : ∀ w', Keep (fun k => k = g) w w' → SliceR 1 (.slice A1 (ps[i]'hi).length c1') (ps[i]'hi).length (ints (ps[i]'hi)) w') (hb : ((List.range ps.length).map (rc.setH i).h).contains false = true) :
    Calls Tryz.prog 109 #[.pointer (some ⟨g, 0, none⟩), .agg #[.int .i64 1, .int .u64 session, .int .i64 i, .int .i64 ps.length, .int .u32 (sum : Nat), .slice A1 (ps[i]'hi).length c1', .slice none 0 0]] w fun e w' => e = .returned (.slice none 0 0) ∧ ∃ A c G', RCell g ((rc.setH i).setZ i ⟨A, (ps[i]'hi).length, c⟩) w' ∧ Hear ((rc.setH i).setZ i ⟨A, (ps[i]'hi).length, c⟩) ps G' w' ∧ Keep (fun k => k = g) w w' ∧ ∀ k, G' k → G k ∨ w.heap.size ≤ k := by
 have hg0 := (Keep.refl NoB w).alloc (.cells #[.int .i64 1, .int .u64 session, .int .i64 i, .int .i64 ps.length, .int .u32 (sum : Nat), .slice A1 (ps[i]'hi).length c1', .slice none 0 0] 46)
 have HZ := LH (heap_alloc_new w (.cells #[.int .i64 1, .int .u64 session, .int .i64 i, .int .i64 ps.length, .int .u32 (sum : Nat), .slice A1 (ps[i]'hi).length c1', .slice none 0 0] 46))
 have HS := LH (hs.grow hg0)
 have H := LH (h.grow hg0)
 have HLT : Hid (g < w.heap.size) := LH h.lt
 have HG := LH hg0
 have HB := LH hb
 clear hsg
 have HHH := LH hh
 have HHE := LH (hH.keep hg0 (fun _ _ h => h))
 have HGG := LH hgG
 subst hses
 subst hsum
 clear hH hgG hh
 have hwi : (i : Int) < 4 := by omega
 have hi1 : ¬ ((ps.length : Int) ≤ i) := by omega
 clear h hg0 hs hb
 go_enter Tryz.func109, Tryz.ntmps109
 obtain ⟨z0, z1, z2, z3, z4, z5, z6, zf⟩ := cells7 HZ.out
 obtain ⟨c0, c1, c2, c3, c4, c5, c6, c7, c8, c9, c10, c11, c12, c13, c14, c15, c16, c17, c18, c19, c20, cf⟩ := cells21 H.out
 rw [hpt] at c0
 rw [hph] at c6
 go_wp2_with fail
 refine (rours_calls H.out 1 rc.session i ps.length rc.sum A1 none (ps[i]'hi).length c1' 0 0).mono ?_
 rintro e w1 ⟨rfl, hg⟩
 replace H := LH (H.out.grow hg)
 replace HG := LH (HG.out.grow hg)
 replace HZ := LH (Grow.heap hg HZ.out)
 replace HS := LH (HS.out.grow hg)
 replace HHE := LH (HHE.out.keep hg (fun _ _ h => h))
 have hdd : decide (rc.session = rc.session ∧ rc.sum = rc.sum) = true := by simp
 rw [hdd]
 clear hg hdd c0 c1 c2 c3 c4 c5 c6 c7 c8 c9 c10 c11 c12 c13 c14 c15 c16 c17 c18 c19 c20 cf z0 z1 z2 z3 z4 z5 z6 zf
 obtain ⟨z0, z1, z2, z3, z4, z5, z6, zf⟩ := cells7 HZ.out
 obtain ⟨c0, c1, c2, c3, c4, c5, c6, c7, c8, c9, c10, c11, c12, c13, c14, c15, c16, c17, c18, c19, c20, cf⟩ := cells21 H.out
 rw [hpt] at c0
 rw [hph] at c6
 rw [hof] at c10
 have ch := H.out.h_cell i (by omega)
 rw [HHH.out] at ch
 go_wp2
 refine region_ord [0, 1, 2, 3, 4, 5, 6, 7, 8, 9, 10, 11, 12, 13, 14, 15] [] [1, 5, 10, 14] [] rfl (by kernel_rfl) ?_
 refine ord_pure rfl rfl rfl rfl rfl (fun _ _ _ _ h => h) ?_ ?_ ?_ ?_ ?_
 rotate_left 2
 ·intro w'; go_simp; with_reducible rfl
 ·simp only [Act.put, pB, pC, pD]; rfl
 refine ord_read rfl rfl rfl rfl rfl (fun _ _ _ _ h => h) ?_ ?_ ?_ ?_ ?_
 rotate_left 2
 ·intro w' hg; have q := hg.cell z3 (fun h => h); go_simp; with_reducible rfl
 ·simp only [Act.put, pB, pC, pD]; rfl
 iterate 3
  refine ord_pure rfl rfl rfl rfl rfl (fun _ _ _ _ h => h) ?_ ?_ ?_ ?_ ?_
  rotate_left 2
  ·intro w'; go_simp; with_reducible rfl
  ·simp only [Act.put, pB, pC, pD]; rfl
 refine ord_read rfl rfl rfl rfl rfl (fun _ _ _ _ h => h) ?_ ?_ ?_ ?_ ?_
 rotate_left 2
 ·intro w' hg; have q := hg.cell c10 (fun h => h); go_simp; with_reducible rfl
 ·simp only [Act.put, pB, pC, pD]; rfl
 iterate 2
  refine ord_pure rfl rfl rfl rfl rfl (fun _ _ _ _ h => h) ?_ ?_ ?_ ?_ ?_
  rotate_left 2
  ·intro w'; go_simp; with_reducible rfl
  ·simp only [Act.put, pB, pC, pD]; rfl
 iterate 2
  refine ord_pureG rfl rfl rfl rfl rfl (fun _ _ _ _ h => h) ?_ ?_ ?_ ?_ ?_
  rotate_left 2
  ·intro w'; go_simp; with_reducible rfl
  ·simp only [Act.put, pB, pC, pD]; rfl
 refine ord_readG rfl rfl rfl rfl rfl (fun _ _ _ _ h => h) ?_ ?_ ?_ ?_ ?_
 rotate_left 2
 ·intro w' hg; have q := hg.cell z2 (fun h => h); go_simp; with_reducible rfl
 ·simp only [Act.put, pB, pC, pD]; rfl
 iterate 3
  refine ord_pureG rfl rfl rfl rfl rfl (fun _ _ _ _ h => h) ?_ ?_ ?_ ?_ ?_
  rotate_left 2
  ·intro w'; go_simp; with_reducible rfl
  ·simp only [Act.put, pB, pC, pD]; rfl
 refine ord_readG rfl rfl rfl rfl rfl (fun _ _ _ _ h => h) ?_ ?_ ?_ ?_ ?_
 rotate_left 2
 ·intro w' hg; have q := hg.cell ch (fun h => h); go_simp; with_reducible rfl
 ·simp only [Act.put, pB, pC, pD]; rfl
 refine ord_pure rfl rfl rfl rfl rfl (fun _ _ _ _ h => h) ?_ ?_ ?_ ?_ ?_
 rotate_left 2
 ·intro w'; go_simp; with_reducible rfl
 ·simp only [Act.put, pB, pC, pD]; rfl
 refine ord_nil ?_
 clear z0 z1 z2 z3 z4 z5 z6 zf c0 c1 c2 c3 c4 c5 c6 c7 c8 c9 c10 c11 c12 c13 c14 c15 c16 c17 c18 c19 c20 cf ch
 replace H := LH ((show RCell g rc w1.drew from H.out))
 replace HG := LH (HG.out.drew)
 replace HZ := LH ((show w1.drew.heap[_]? = _ from HZ.out))
 replace HS := LH (HS.out.grow (Keep.refl NoB w1).drew)
 replace HHE := LH (HHE.out.keep (Keep.refl NoB w1).drew (fun _ _ h => h))
 generalize w1.drew = w2 at H HG HZ HS HHE ⊢
 obtain ⟨z0, z1, z2, z3, z4, z5, z6, zf⟩ := cells7 HZ.out
 go_wp2
 have HGN : Hid (¬ w.heap.size = g) := LH (fun e => by have := HLT.out; omega)
 refine region_ordS (fun k => k = g) [0, 1, 2, 3, 4, 5, 6, 7, 9, 10, 13, 14, 8, 11, 12, 15, 16] [8, 12, 16] [2, 5, 7] [] rfl (by kernel_rfl) ?_
 iterate 2
  refine ord_pure rfl rfl rfl rfl rfl (fun _ _ _ _ h => h) ?_ ?_ ?_ ?_ ?_
  rotate_left 2
  ·intro w'; go_simp; with_reducible rfl
  ·simp only [Act.put, pB, pC, pD]; rfl
 refine ord_read rfl rfl rfl rfl rfl (fun _ _ _ _ h => h) ?_ ?_ ?_ ?_ ?_
 rotate_left 2
 ·intro w' hg; have q := hg.cell z2 HGN.out; go_simp; with_reducible rfl
 ·simp only [Act.put, pB, pC, pD]; rfl
 iterate 2
  refine ord_pure rfl rfl rfl rfl rfl (fun _ _ _ _ h => h) ?_ ?_ ?_ ?_ ?_
  rotate_left 2
  ·intro w'; go_simp; with_reducible rfl
  ·simp only [Act.put, pB, pC, pD]; rfl
 refine ord_read rfl rfl rfl rfl rfl (fun _ _ _ _ h => h) ?_ ?_ ?_ ?_ ?_
 rotate_left 2
 ·intro w' hg; have q := hg.cell z2 HGN.out; go_simp; with_reducible rfl
 ·simp only [Act.put, pB, pC, pD]; rfl
 refine ord_pure rfl rfl rfl rfl rfl (fun _ _ _ _ h => h) ?_ ?_ ?_ ?_ ?_
 rotate_left 2
 ·intro w'; go_simp; with_reducible rfl
 ·simp only [Act.put, pB, pC, pD]; rfl
 refine ord_read rfl rfl rfl rfl rfl (fun _ _ _ _ h => h) ?_ ?_ ?_ ?_ ?_
 rotate_left 2
 ·intro w' hg; have q := hg.cell z5 HGN.out; go_simp; with_reducible rfl
 ·simp only [Act.put, pB, pC, pD]; rfl
 iterate 4
  refine ord_pure rfl rfl rfl rfl rfl (fun _ _ _ _ h => h) ?_ ?_ ?_ ?_ ?_
  rotate_left 2
  ·intro w'; go_simp; with_reducible rfl
  ·simp only [Act.put, pB, pC, pD]; rfl
 refine ord_call rfl rfl rfl rfl rfl Tryz.func178 rfl rfl [.slice A1 (ps[i]'hi).length c1'] rfl ?_
 refine (clonei_calls _ (ps[i]'hi) w2.drew (HS.out.grow (Keep.refl NoB w2).drew) (by omega)).mono ?_
 rintro e w3 ⟨A5, c5, rfl, ho5, hg5⟩
 refine ⟨_, rfl, fun _ => hg5.mono (fun _ h => h.elim), ?_⟩
 simp only [Act.put, pB, pC, pD]
 have h3 : RCell g rc w3 := H.out.grow ((Keep.refl NoB w2).drew.grow hg5)
 have ch := h3.h_cell i (by omega)
 have cf : ∀ o, w3.frozen? ⟨g, o, none⟩ = false := fun o => frozen0 o h3
 refine ord_pure rfl rfl rfl rfl rfl (fun _ _ _ _ h => h) ?_ ?_ ?_ ?_ ?_
 rotate_left 2
 ·intro w'; go_simp; with_reducible rfl
 ·simp only [Act.put, pB, pC, pD]; rfl
 refine ord_put rfl rfl rfl rfl ?_ ?_ ?_ ?_
 rotate_left
 ·go_simp; with_reducible rfl
 ·exact fun _ => keep_put _ _ _ _
 have h4' := h3.put (d' := rc.setH i) (11 + i) (.bool true) (RC.setH_cs _ i (by omega))
 have cz := h4'.1.z_cell i (by omega)
 have cf2 : ∀ o, (w3.setCell ⟨g, 11 + i, none⟩ (.bool true)).frozen? ⟨g, o, none⟩ = false := fun o => frozen0 o h4'.1
 refine ord_pure rfl rfl rfl rfl rfl (fun _ _ _ _ h => h) ?_ ?_ ?_ ?_ ?_
 rotate_left 2
 ·intro w'; go_simp; with_reducible rfl
 ·simp only [Act.put, pB, pC, pD]; rfl
 refine ord_put rfl rfl rfl rfl ?_ ?_ ?_ ?_
 rotate_left
 ·go_simp; with_reducible rfl
 ·exact fun _ => keep_put _ _ _ _
 have h5' := h4'.1.put (d' := (rc.setH i).setZ i ⟨A5, (ps[i]'hi).length, c5⟩) (15 + i) (.slice A5 (ps[i]'hi).length c5) (RC.setZ_cs _ i (by omega) ⟨A5, (ps[i]'hi).length, c5⟩)
 refine ord_nil ?_
 have hkg := h4'.2.trans h5'.2 (fun _ h => .inl h)
 have hgr3 := (Keep.refl NoB w2).drew.grow hg5
 have hw2 := HG.out.size
 have hdw : w2.drew.heap.size = w2.heap.size := rfl
 have hng : ∀ k, (Value.slice A5 (ps[i]'hi).length c5).ownBlock = some k → ¬ k = g := fun k hk e => by have := (ho5.lt k hk).1; have := HLT.out; omega
 have HO5 := LH (own_keep ho5 hkg hng)
 have HO5s : Hid (∀ k, (Value.slice A5 (ps[i]'hi).length c5).ownBlock = some k → w.heap.size ≤ k) := LH (fun k hk => by have := (ho5.lt k hk).1; omega)
 replace HHE := LH ((HHE.out.keep hgr3 (fun _ _ h => h)).keep hkg (fun k hk e => HGG.out (by rw [← e]; exact hk)))
 replace HHE := LH (HHE.out.more i hi h4 HO5.out)
 have HKG := LH (((HG.out.grow hgr3).mono (T := fun k => k = g) (fun _ h => h.elim)).trans hkg (fun _ h => .inl h))
 have HNZ := LH (And.intro h5'.1 hkg)
 clear ho5 hg5 h3 ch cf h4' cz cf2 h5' hkg hgr3 hw2 hdw hng z0 z1 z2 z3 z4 z5 z6 zf HO5
 obtain ⟨w5, hw5⟩ : ∃ w5, ((w3.setCell ⟨g, 11 + i, none⟩ (.bool true)).setCell ⟨g, 15 + i, none⟩ (.slice A5 (ps[i]'hi).length c5)) = w5 := ⟨_, rfl⟩
 rw [hw5] at HHE HKG HNZ ⊢
 replace H := LH HNZ.out.1
 have HBS : Hid (((List.range ps.length).map ((rc.setH i).setZ i ⟨A5, (ps[i]'hi).length, c5⟩).h).contains false = true) := LH (by rw [RC.setZ_h]; exact HB.out)
 have hrest := RC.set_rest rc i (by omega) ⟨A5, (ps[i]'hi).length, c5⟩
 have HPOST : Hid (∃ A c G', RCell g ((rc.setH i).setZ i ⟨A, (ps[i]'hi).length, c⟩) w5.drew ∧ Hear ((rc.setH i).setZ i ⟨A, (ps[i]'hi).length, c⟩) ps G' w5.drew ∧ Keep (fun k => k = g) w w5.drew ∧ ∀ k, G' k → G k ∨ w.heap.size ≤ k) := LH ⟨A5, c5, _, H.out, HHE.out.keep (Keep.refl NoB w5).drew (fun _ _ h => h), HKG.out.drew, fun k hk => hk.imp id (HO5s.out k)⟩
 obtain ⟨rc2, hrc2⟩ : ∃ r, (rc.setH i).setZ i ⟨A5, (ps[i]'hi).length, c5⟩ = r := ⟨_, rfl⟩
 rw [hrc2] at H HHE HBS hrest
 have HRST := LH hrest
 have hof2 : rc2.of = ps.length := by rw [hrest]; exact hof
 clear HNZ hw5 hrc2 hrest HB HZ HS HG
 obtain ⟨c0, c1, c2, c3, c4, c5, c6, c7, c8, c9, c10, c11, c12, c13, c14, c15, c16, c17, c18, c19, c20, cf⟩ := cells21 H.out
 rw [hof2] at c10
 go_wp2
 have hC := bcontains_calls _ _ HBS.out (some ⟨g, 11, none⟩) 4 w5.drew (by have := (show RCell g rc2 w5.drew from H.out).heardR ps.length h4; rw [List.length_map, List.length_range]; exact this) (by rw [List.length_map, List.length_range]; omega)
 rw [List.length_map, List.length_range] at hC
 have HC := LH hC
 clear hC
 have hpl : (ps.length : Int) ≤ 4 := by omega
 refine region_ord [0, 1, 2, 3, 4, 5, 6, 7, 8] [8] [6] [] rfl (by kernel_rfl) ?_
 iterate 6
  refine ord_pure rfl rfl rfl rfl rfl (fun _ _ _ _ h => h) ?_ ?_ ?_ ?_ ?_
  rotate_left 2
  ·intro w'; go_simp; with_reducible rfl
  ·simp only [Act.put, pB, pC, pD]; rfl
 refine ord_read rfl rfl rfl rfl rfl (fun _ _ _ _ h => h) ?_ ?_ ?_ ?_ ?_
 rotate_left 2
 ·intro w' hg; have q := hg.cell c10 (fun h => h); go_simp; with_reducible rfl
 ·simp only [Act.put, pB, pC, pD]; rfl
 refine ord_pure rfl rfl rfl rfl rfl (fun _ _ _ _ h => h) ?_ ?_ ?_ ?_ ?_
 rotate_left 2
 ·intro w'; go_simp; with_reducible rfl
 ·simp only [Act.put, pB, pC, pD]; rfl
 refine ord_call rfl rfl rfl rfl rfl Tryz.func179 rfl rfl [.slice (some ⟨g, 11, none⟩) ps.length 4, .bool false] rfl ?_
 refine HC.out.mono ?_
 rintro e w6 ⟨rfl, rfl⟩
 refine ⟨_, rfl, fun _ => Keep.refl _ _, ?_⟩
 simp only [Act.put, pB, pC, pD]
 refine ord_nil ?_
 clear HC c0 c1 c2 c3 c4 c5 c6 c7 c8 c9 c10 c11 c12 c13 c14 c15 c16 c17 c18 c19 c20 cf
 go_wp2
 go_ret
 exact ⟨rfl, HPOST.out⟩
theorem roffer_more0 {g : Nat} {rc : RC} {w : World} (h : RCell g rc w) (session : Int) (sum : Nat) (ps : List (List Int)) (h4 : ps.length ≤ 4) (hph : rc.phase = 0) (hpt : rc.part = none) (i : Nat) (hi : i < ps.length)   (A1 : Option Addr) (c1' : Nat) (hs : SliceR 1 (.slice A1 (ps[i]'hi).length c1') (ps[i]'hi).length (ints (ps[i]'hi)) w) (hsl : (ps[i]'hi).length ≤ 4) (hsg : ∀ w', Keep (fun k => k = g) w w' → SliceR 1 (.slice A1 (ps[i]'hi).length c1') (ps[i]'hi).length (ints (ps[i]'hi)) w') (hb : ((List.range ps.length).map ((rc.hearing ps.length session sum).setH i).h).contains false = true) :
    Calls Tryz.prog 109 #[.pointer (some ⟨g, 0, none⟩), .agg #[.int .i64 1, .int .u64 session, .int .i64 i, .int .i64 ps.length, .int .u32 (sum : Nat), .slice A1 (ps[i]'hi).length c1', .slice none 0 0]] w fun e w' => e = .returned (.slice none 0 0) ∧ ∃ A c G', RCell g (((rc.hearing ps.length session sum).setH i).setZ i ⟨A, (ps[i]'hi).length, c⟩) w' ∧ Hear (((rc.hearing ps.length session sum).setH i).setZ i ⟨A, (ps[i]'hi).length, c⟩) ps G' w' ∧ Keep (fun k => k = g) w w' ∧ ∀ k, G' k → NoB k ∨ w.heap.size ≤ k := by
 have hg0 := (Keep.refl NoB w).alloc (.cells #[.int .i64 1, .int .u64 session, .int .i64 i, .int .i64 ps.length, .int .u32 (sum : Nat), .slice A1 (ps[i]'hi).length c1', .slice none 0 0] 46)
 have HZ := LH (heap_alloc_new w (.cells #[.int .i64 1, .int .u64 session, .int .i64 i, .int .i64 ps.length, .int .u32 (sum : Nat), .slice A1 (ps[i]'hi).length c1', .slice none 0 0] 46))
 have HS := LH (hs.grow hg0)
 have H := LH (h.grow hg0)
 have HLT : Hid (g < w.heap.size) := LH h.lt
 have HG := LH hg0
 have HB := LH hb
 have HSN : Hid (∀ w', Keep (fun k => k = g) (w.alloc (.cells #[.int .i64 1, .int .u64 session, .int .i64 i, .int .i64 ps.length, .int .u32 (sum : Nat), .slice A1 (ps[i]'hi).length c1', .slice none 0 0] 46)) w' → SliceR 1 (.slice A1 (ps[i]'hi).length c1') (ps[i]'hi).length (ints (ps[i]'hi)) w') := LH (fun w' hk => hsg w' ((hg0.mono (T := fun k => k = g) (fun _ h => h.elim)).trans hk (fun _ h => .inl h)))
 clear hsg
 have hwi : (i : Int) < 4 := by omega
 have hi1 : ¬ ((ps.length : Int) ≤ i) := by omega
 clear h hg0 hs hb
 go_enter Tryz.func109, Tryz.ntmps109
 obtain ⟨z0, z1, z2, z3, z4, z5, z6, zf⟩ := cells7 HZ.out
 obtain ⟨c0, c1, c2, c3, c4, c5, c6, c7, c8, c9, c10, c11, c12, c13, c14, c15, c16, c17, c18, c19, c20, cf⟩ := cells21 H.out
 rw [hpt] at c0
 rw [hph] at c6
 go_wp2
 have HGN : Hid (¬ w.heap.size = g) := LH (fun e => by have := HLT.out; omega)
 generalize w.alloc (.cells #[.int .i64 1, .int .u64 session, .int .i64 i, .int .i64 ps.length, .int .u32 (sum : Nat), .slice A1 (ps[i]'hi).length c1', .slice none 0 0] 46) = w1 at H HG HZ HS HSN ⊢
 clear c0 c1 c2 c3 c4 c5 c6 c7 c8 c9 c10 c11 c12 c13 c14 c15 c16 c17 c18 c19 c20 cf z0 z1 z2 z3 z4 z5 z6 zf
 obtain ⟨z0, z1, z2, z3, z4, z5, z6, zf⟩ := cells7 HZ.out
 obtain ⟨c0, c1, c2, c3, c4, c5, c6, c7, c8, c9, c10, c11, c12, c13, c14, c15, c16, c17, c18, c19, c20, cf⟩ := cells21 H.out
 refine region_ordS (fun k => k = g) [0, 1, 2, 3, 4, 5, 6, 7, 8, 9, 10, 11, 12, 13, 14, 15, 16, 17, 18, 19, 20, 21, 22] [13, 16, 19, 22] [5, 7, 9] [] rfl (by kernel_rfl) ?_
 iterate 5
  refine ord_pure rfl rfl rfl rfl rfl (fun _ _ _ _ h => h) ?_ ?_ ?_ ?_ ?_
  rotate_left 2
  ·intro w'; go_simp; with_reducible rfl
  ·simp only [Act.put, pB, pC, pD]; rfl
 refine ord_read rfl rfl rfl rfl rfl (fun _ _ _ _ h => h) ?_ ?_ ?_ ?_ ?_
 rotate_left 2
 ·intro w' hg; have q := hg.cell z1 HGN.out; go_simp; with_reducible rfl
 ·simp only [Act.put, pB, pC, pD]; rfl
 refine ord_pure rfl rfl rfl rfl rfl (fun _ _ _ _ h => h) ?_ ?_ ?_ ?_ ?_
 rotate_left 2
 ·intro w'; go_simp; with_reducible rfl
 ·simp only [Act.put, pB, pC, pD]; rfl
 refine ord_read rfl rfl rfl rfl rfl (fun _ _ _ _ h => h) ?_ ?_ ?_ ?_ ?_
 rotate_left 2
 ·intro w' hg; have q := hg.cell z4 HGN.out; go_simp; with_reducible rfl
 ·simp only [Act.put, pB, pC, pD]; rfl
 refine ord_pure rfl rfl rfl rfl rfl (fun _ _ _ _ h => h) ?_ ?_ ?_ ?_ ?_
 rotate_left 2
 ·intro w'; go_simp; with_reducible rfl
 ·simp only [Act.put, pB, pC, pD]; rfl
 refine ord_read rfl rfl rfl rfl rfl (fun _ _ _ _ h => h) ?_ ?_ ?_ ?_ ?_
 rotate_left 2
 ·intro w' hg; have q := hg.cell z3 HGN.out; go_simp; with_reducible rfl
 ·simp only [Act.put, pB, pC, pD]; rfl
 iterate 3
  refine ord_pure rfl rfl rfl rfl rfl (fun _ _ _ _ h => h) ?_ ?_ ?_ ?_ ?_
  rotate_left 2
  ·intro w'; go_simp; with_reducible rfl
  ·simp only [Act.put, pB, pC, pD]; rfl
 refine ord_put rfl rfl rfl rfl ?_ ?_ ?_ ?_
 rotate_left
 ·go_simp; with_reducible rfl
 ·exact fun _ => keep_put _ _ _ _
 iterate 2
  refine ord_pure rfl rfl rfl rfl rfl (fun _ _ _ _ h => h) ?_ ?_ ?_ ?_ ?_
  rotate_left 2
  ·intro w'; go_simp; with_reducible rfl
  ·simp only [Act.put, pB, pC, pD]; rfl
 refine ord_put rfl rfl rfl rfl ?_ ?_ ?_ ?_
 rotate_left
 ·go_simp; with_reducible rfl
 ·exact fun _ => keep_put _ _ _ _
 iterate 2
  refine ord_pure rfl rfl rfl rfl rfl (fun _ _ _ _ h => h) ?_ ?_ ?_ ?_ ?_
  rotate_left 2
  ·intro w'; go_simp; with_reducible rfl
  ·simp only [Act.put, pB, pC, pD]; rfl
 refine ord_put rfl rfl rfl rfl ?_ ?_ ?_ ?_
 rotate_left
 ·go_simp; with_reducible rfl
 ·exact fun _ => keep_put _ _ _ _
 iterate 2
  refine ord_pure rfl rfl rfl rfl rfl (fun _ _ _ _ h => h) ?_ ?_ ?_ ?_ ?_
  rotate_left 2
  ·intro w'; go_simp; with_reducible rfl
  ·simp only [Act.put, pB, pC, pD]; rfl
 have hp1 := H.out.put (d' := { rc with phase := 1 }) 6 (.int .i64 1) rfl
 have hp2 := hp1.1.put (d' := { rc with phase := 1, session := session }) 8 (.int .u64 session) rfl
 have hp3 := hp2.1.put (d' := { rc with phase := 1, session := session, sum := sum }) 9 (.int .u32 (sum : Nat)) rfl
 have hp4 := (show RCell g { rc with phase := 1, session := session, sum := sum } (((w1.setCell ⟨g, 6, none⟩ (.int .i64 1)).setCell ⟨g, 8, none⟩ (.int .u64 session)).setCell ⟨g, 9, none⟩ (.int .u32 (sum : Nat))).drew from hp3.1)
 refine ord_part rfl rfl rfl rfl _ _ _ rfl g 10 #[.int .i64 ps.length, .bool false, .bool false, .bool false, .bool false, .slice none 0 0, .slice none 0 0, .slice none 0 0, .slice none 0 0] rfl rfl _ _ (rc.hearing ps.length session sum).cs hp4 info_pages (by simp [RC.cs]) rfl (by simp [Value.oneCell']) (fun _ => (Keep.refl (fun k => k = g) _).setRow (.inl rfl) _) ?_
 have hr4 := setRow_heap _ g _ (rc.hearing ps.length session sum).cs _ _ hp4
 have hk4 := ((((Keep.refl (fun k => k = g) w1).trans hp1.2 (fun _ h => .inl h)).trans hp2.2 (fun _ h => .inl h)).trans hp3.2 (fun _ h => .inl h)).drew.setRow (.inl rfl) (rc.hearing ps.length session sum).cs
 refine ord_nil ?_
 replace HZ := LH ((hk4.block _ (gE HZ.out).1 HGN.out).trans HZ.out)
 have hgs : Hid (∀ k, (Value.slice A1 (ps[i]'hi).length c1').ownBlock = some k → True) := LH (fun _ _ => trivial)
 replace HS := LH (HSN.out _ hk4)
 replace HG := LH ((HG.out.mono (T := fun k => k = g) (fun _ h => h.elim)).trans hk4 (fun _ h => .inl h))
 have HR4 := LH hr4
 clear hp1 hp2 hp3 hp4 hr4 hk4 hgs HSN H c0 c1 c2 c3 c4 c5 c6 c7 c8 c9 c10 c11 c12 c13 c14 c15 c16 c17 c18 c19 c20 cf z0 z1 z2 z3 z4 z5 z6 zf
 generalize World.setRow (((w1.setCell ⟨g, 6, none⟩ (.int .i64 1)).setCell ⟨g, 8, none⟩ (.int .u64 session)).setCell ⟨g, 9, none⟩ (.int .u32 (sum : Nat))).drew g (rc.hearing ps.length session sum).cs = w9 at HR4 HG HZ HS ⊢
 have H : Hid (RCell g (rc.hearing ps.length session sum) w9) := LH HR4.out
 clear HR4
 obtain ⟨z0, z1, z2, z3, z4, z5, z6, zf⟩ := cells7 HZ.out
 obtain ⟨c0, c1, c2, c3, c4, c5, c6, c7, c8, c9, c10, c11, c12, c13, c14, c15, c16, c17, c18, c19, c20, cf⟩ := cells21 H.out
 rw [show (rc.hearing ps.length session sum).of = (ps.length : Int) from rfl] at c10
 have ch := H.out.h_cell i (by omega)
 rw [show (rc.hearing ps.length session sum).h i = false from by unfold RC.h RC.hearing; split <;> rfl] at ch
 go_wp2
 refine region_ord [0, 1, 2, 3, 4, 5, 6, 7, 8, 9, 10, 11, 12, 13, 14, 15] [] [1, 5, 10, 14] [] rfl (by kernel_rfl) ?_
 refine ord_pure rfl rfl rfl rfl rfl (fun _ _ _ _ h => h) ?_ ?_ ?_ ?_ ?_
 rotate_left 2
 ·intro w'; go_simp; with_reducible rfl
 ·simp only [Act.put, pB, pC, pD]; rfl
 refine ord_read rfl rfl rfl rfl rfl (fun _ _ _ _ h => h) ?_ ?_ ?_ ?_ ?_
 rotate_left 2
 ·intro w' hg; have q := hg.cell z3 (fun h => h); go_simp; with_reducible rfl
 ·simp only [Act.put, pB, pC, pD]; rfl
 iterate 3
  refine ord_pure rfl rfl rfl rfl rfl (fun _ _ _ _ h => h) ?_ ?_ ?_ ?_ ?_
  rotate_left 2
  ·intro w'; go_simp; with_reducible rfl
  ·simp only [Act.put, pB, pC, pD]; rfl
 refine ord_read rfl rfl rfl rfl rfl (fun _ _ _ _ h => h) ?_ ?_ ?_ ?_ ?_
 rotate_left 2
 ·intro w' hg; have q := hg.cell c10 (fun h => h); go_simp; with_reducible rfl
 ·simp only [Act.put, pB, pC, pD]; rfl
 iterate 2
  refine ord_pure rfl rfl rfl rfl rfl (fun _ _ _ _ h => h) ?_ ?_ ?_ ?_ ?_
  rotate_left 2
  ·intro w'; go_simp; with_reducible rfl
  ·simp only [Act.put, pB, pC, pD]; rfl
 iterate 2
  refine ord_pureG rfl rfl rfl rfl rfl (fun _ _ _ _ h => h) ?_ ?_ ?_ ?_ ?_
  rotate_left 2
  ·intro w'; go_simp; with_reducible rfl
  ·simp only [Act.put, pB, pC, pD]; rfl
 refine ord_readG rfl rfl rfl rfl rfl (fun _ _ _ _ h => h) ?_ ?_ ?_ ?_ ?_
 rotate_left 2
 ·intro w' hg; have q := hg.cell z2 (fun h => h); go_simp; with_reducible rfl
 ·simp only [Act.put, pB, pC, pD]; rfl
 iterate 3
  refine ord_pureG rfl rfl rfl rfl rfl (fun _ _ _ _ h => h) ?_ ?_ ?_ ?_ ?_
  rotate_left 2
  ·intro w'; go_simp; with_reducible rfl
  ·simp only [Act.put, pB, pC, pD]; rfl
 refine ord_readG rfl rfl rfl rfl rfl (fun _ _ _ _ h => h) ?_ ?_ ?_ ?_ ?_
 rotate_left 2
 ·intro w' hg; have q := hg.cell ch (fun h => h); go_simp; with_reducible rfl
 ·simp only [Act.put, pB, pC, pD]; rfl
 refine ord_pure rfl rfl rfl rfl rfl (fun _ _ _ _ h => h) ?_ ?_ ?_ ?_ ?_
 rotate_left 2
 ·intro w'; go_simp; with_reducible rfl
 ·simp only [Act.put, pB, pC, pD]; rfl
 refine ord_nil ?_
 clear z0 z1 z2 z3 z4 z5 z6 zf c0 c1 c2 c3 c4 c5 c6 c7 c8 c9 c10 c11 c12 c13 c14 c15 c16 c17 c18 c19 c20 cf ch
 replace H := LH ((show RCell g (rc.hearing ps.length session sum) w9.drew from H.out))
 replace HG := LH (HG.out.drew)
 replace HZ := LH ((show w9.drew.heap[_]? = _ from HZ.out))
 replace HS := LH (HS.out.grow (Keep.refl NoB w9).drew)
 generalize w9.drew = w2 at H HG HZ HS ⊢
 obtain ⟨z0, z1, z2, z3, z4, z5, z6, zf⟩ := cells7 HZ.out
 go_wp2
 refine region_ordS (fun k => k = g) [0, 1, 2, 3, 4, 5, 6, 7, 9, 10, 13, 14, 8, 11, 12, 15, 16] [8, 12, 16] [2, 5, 7] [] rfl (by kernel_rfl) ?_
 iterate 2
  refine ord_pure rfl rfl rfl rfl rfl (fun _ _ _ _ h => h) ?_ ?_ ?_ ?_ ?_
  rotate_left 2
  ·intro w'; go_simp; with_reducible rfl
  ·simp only [Act.put, pB, pC, pD]; rfl
 refine ord_read rfl rfl rfl rfl rfl (fun _ _ _ _ h => h) ?_ ?_ ?_ ?_ ?_
 rotate_left 2
 ·intro w' hg; have q := hg.cell z2 HGN.out; go_simp; with_reducible rfl
 ·simp only [Act.put, pB, pC, pD]; rfl
 iterate 2
  refine ord_pure rfl rfl rfl rfl rfl (fun _ _ _ _ h => h) ?_ ?_ ?_ ?_ ?_
  rotate_left 2
  ·intro w'; go_simp; with_reducible rfl
  ·simp only [Act.put, pB, pC, pD]; rfl
 refine ord_read rfl rfl rfl rfl rfl (fun _ _ _ _ h => h) ?_ ?_ ?_ ?_ ?_
 rotate_left 2
 ·intro w' hg; have q := hg.cell z2 HGN.out; go_simp; with_reducible rfl
 ·simp only [Act.put, pB, pC, pD]; rfl
 refine ord_pure rfl rfl rfl rfl rfl (fun _ _ _ _ h => h) ?_ ?_ ?_ ?_ ?_
 rotate_left 2
 ·intro w'; go_simp; with_reducible rfl
 ·simp only [Act.put, pB, pC, pD]; rfl
 refine ord_read rfl rfl rfl rfl rfl (fun _ _ _ _ h => h) ?_ ?_ ?_ ?_ ?_
 rotate_left 2
 ·intro w' hg; have q := hg.cell z5 HGN.out; go_simp; with_reducible rfl
 ·simp only [Act.put, pB, pC, pD]; rfl
 iterate 4
  refine ord_pure rfl rfl rfl rfl rfl (fun _ _ _ _ h => h) ?_ ?_ ?_ ?_ ?_
  rotate_left 2
  ·intro w'; go_simp; with_reducible rfl
  ·simp only [Act.put, pB, pC, pD]; rfl
 refine ord_call rfl rfl rfl rfl rfl Tryz.func178 rfl rfl [.slice A1 (ps[i]'hi).length c1'] rfl ?_
 refine (clonei_calls _ (ps[i]'hi) w2.drew (HS.out.grow (Keep.refl NoB w2).drew) (by omega)).mono ?_
 rintro e w3 ⟨A5, c5, rfl, ho5, hg5⟩
 refine ⟨_, rfl, fun _ => hg5.mono (fun _ h => h.elim), ?_⟩
 simp only [Act.put, pB, pC, pD]
 have h3 : RCell g (rc.hearing ps.length session sum) w3 := H.out.grow ((Keep.refl NoB w2).drew.grow hg5)
 have ch := h3.h_cell i (by omega)
 have cf : ∀ o, w3.frozen? ⟨g, o, none⟩ = false := fun o => frozen0 o h3
 refine ord_pure rfl rfl rfl rfl rfl (fun _ _ _ _ h => h) ?_ ?_ ?_ ?_ ?_
 rotate_left 2
 ·intro w'; go_simp; with_reducible rfl
 ·simp only [Act.put, pB, pC, pD]; rfl
 refine ord_put rfl rfl rfl rfl ?_ ?_ ?_ ?_
 rotate_left
 ·go_simp; with_reducible rfl
 ·exact fun _ => keep_put _ _ _ _
 have h4' := h3.put (d' := (rc.hearing ps.length session sum).setH i) (11 + i) (.bool true) (RC.setH_cs _ i (by omega))
 have cz := h4'.1.z_cell i (by omega)
 have cf2 : ∀ o, (w3.setCell ⟨g, 11 + i, none⟩ (.bool true)).frozen? ⟨g, o, none⟩ = false := fun o => frozen0 o h4'.1
 refine ord_pure rfl rfl rfl rfl rfl (fun _ _ _ _ h => h) ?_ ?_ ?_ ?_ ?_
 rotate_left 2
 ·intro w'; go_simp; with_reducible rfl
 ·simp only [Act.put, pB, pC, pD]; rfl
 refine ord_put rfl rfl rfl rfl ?_ ?_ ?_ ?_
 rotate_left
 ·go_simp; with_reducible rfl
 ·exact fun _ => keep_put _ _ _ _
 have h5' := h4'.1.put (d' := ((rc.hearing ps.length session sum).setH i).setZ i ⟨A5, (ps[i]'hi).length, c5⟩) (15 + i) (.slice A5 (ps[i]'hi).length c5) (RC.setZ_cs _ i (by omega) ⟨A5, (ps[i]'hi).length, c5⟩)
 refine ord_nil ?_
 have hkg := h4'.2.trans h5'.2 (fun _ h => .inl h)
 have hgr3 := (Keep.refl NoB w2).drew.grow hg5
 have hw2 := HG.out.size
 have hdw : w2.drew.heap.size = w2.heap.size := rfl
 have hng : ∀ k, (Value.slice A5 (ps[i]'hi).length c5).ownBlock = some k → ¬ k = g := fun k hk e => by have := (ho5.lt k hk).1; have := HLT.out; omega
 have HO5 := LH (own_keep ho5 hkg hng)
 have HO5s : Hid (∀ k, (Value.slice A5 (ps[i]'hi).length c5).ownBlock = some k → w.heap.size ≤ k) := LH (fun k hk => by have := (ho5.lt k hk).1; omega)
 have HHE := LH (Hear.none (rc := (rc.hearing ps.length session sum)) (ps := ps) (fun j => by unfold RC.h RC.hearing; split <;> rfl) ((w3.setCell ⟨g, 11 + i, none⟩ (.bool true)).setCell ⟨g, 15 + i, none⟩ (.slice A5 (ps[i]'hi).length c5)))
 replace HHE := LH (HHE.out.more i hi h4 HO5.out)
 have HKG := LH ((HG.out.grow hgr3).trans hkg (fun _ h => .inl h))
 have HNZ := LH (And.intro h5'.1 hkg)
 clear ho5 hg5 h3 ch cf h4' cz cf2 h5' hkg hgr3 hw2 hdw hng z0 z1 z2 z3 z4 z5 z6 zf HO5
 obtain ⟨w5, hw5⟩ : ∃ w5, ((w3.setCell ⟨g, 11 + i, none⟩ (.bool true)).setCell ⟨g, 15 + i, none⟩ (.slice A5 (ps[i]'hi).length c5)) = w5 := ⟨_, rfl⟩
 rw [hw5] at HHE HKG HNZ ⊢
 replace H := LH HNZ.out.1
 have HBS : Hid (((List.range ps.length).map (((rc.hearing ps.length session sum).setH i).setZ i ⟨A5, (ps[i]'hi).length, c5⟩).h).contains false = true) := LH (by rw [RC.setZ_h]; exact HB.out)
 have hrest := RC.set_rest (rc.hearing ps.length session sum) i (by omega) ⟨A5, (ps[i]'hi).length, c5⟩
 have HPOST : Hid (∃ A c G', RCell g (((rc.hearing ps.length session sum).setH i).setZ i ⟨A, (ps[i]'hi).length, c⟩) w5.drew ∧ Hear (((rc.hearing ps.length session sum).setH i).setZ i ⟨A, (ps[i]'hi).length, c⟩) ps G' w5.drew ∧ Keep (fun k => k = g) w w5.drew ∧ ∀ k, G' k → NoB k ∨ w.heap.size ≤ k) := LH ⟨A5, c5, _, H.out, HHE.out.keep (Keep.refl NoB w5).drew (fun _ _ h => h), HKG.out.drew, fun k hk => hk.imp id (HO5s.out k)⟩
 obtain ⟨rc2, hrc2⟩ : ∃ r, ((rc.hearing ps.length session sum).setH i).setZ i ⟨A5, (ps[i]'hi).length, c5⟩ = r := ⟨_, rfl⟩
 rw [hrc2] at H HHE HBS hrest
 have HRST := LH hrest
 have hof2 : rc2.of = ps.length := by rw [hrest]; rfl
 clear HNZ hw5 hrc2 hrest HB HZ HS HG
 obtain ⟨c0, c1, c2, c3, c4, c5, c6, c7, c8, c9, c10, c11, c12, c13, c14, c15, c16, c17, c18, c19, c20, cf⟩ := cells21 H.out
 rw [hof2] at c10
 go_wp2
 have hC := bcontains_calls _ _ HBS.out (some ⟨g, 11, none⟩) 4 w5.drew (by have := (show RCell g rc2 w5.drew from H.out).heardR ps.length h4; rw [List.length_map, List.length_range]; exact this) (by rw [List.length_map, List.length_range]; omega)
 rw [List.length_map, List.length_range] at hC
 have HC := LH hC
 clear hC
 have hpl : (ps.length : Int) ≤ 4 := by omega
 refine region_ord [0, 1, 2, 3, 4, 5, 6, 7, 8] [8] [6] [] rfl (by kernel_rfl) ?_
 iterate 6
  refine ord_pure rfl rfl rfl rfl rfl (fun _ _ _ _ h => h) ?_ ?_ ?_ ?_ ?_
  rotate_left 2
  ·intro w'; go_simp; with_reducible rfl
  ·simp only [Act.put, pB, pC, pD]; rfl
 refine ord_read rfl rfl rfl rfl rfl (fun _ _ _ _ h => h) ?_ ?_ ?_ ?_ ?_
 rotate_left 2
 ·intro w' hg; have q := hg.cell c10 (fun h => h); go_simp; with_reducible rfl
 ·simp only [Act.put, pB, pC, pD]; rfl
 refine ord_pure rfl rfl rfl rfl rfl (fun _ _ _ _ h => h) ?_ ?_ ?_ ?_ ?_
 rotate_left 2
 ·intro w'; go_simp; with_reducible rfl
 ·simp only [Act.put, pB, pC, pD]; rfl
 refine ord_call rfl rfl rfl rfl rfl Tryz.func179 rfl rfl [.slice (some ⟨g, 11, none⟩) ps.length 4, .bool false] rfl ?_
 refine HC.out.mono ?_
 rintro e w6 ⟨rfl, rfl⟩
 refine ⟨_, rfl, fun _ => Keep.refl _ _, ?_⟩
 simp only [Act.put, pB, pC, pD]
 refine ord_nil ?_
 clear HC c0 c1 c2 c3 c4 c5 c6 c7 c8 c9 c10 c11 c12 c13 c14 c15 c16 c17 c18 c19 c20 cf
 go_wp2
 go_ret
 exact ⟨rfl, HPOST.out⟩
end Go.Proofs.YtfkcpaahdlkcdaaGreat
