import Derived.Test.YtfkcpaahdlkcdaaGreatRRecvQuota20
import Derived.Test.YtfkcpaahdlkcdaaGreatRRecvQuota21
set_option linter.unusedSimpArgs false
set_option linter.unusedVariables false
set_option maxRecDepth 100000
set_option maxHeartbeats 16000000
namespace Go.Proofs.YtfkcpaahdlkcdaaGreat
open Go.RowKit
theorem rdata_no {g b : Nat} {rc : RC} {p : PP} {d : Par} {G : Nat → Prop} {k : KS} {Gk : Nat → Prop} {w : World} (h : RcvAt g rc b p d G k Gk w) (hph : rc.phase = 1) (hkn : k.lo.n ≤ 4096) (hkn2 : k.n ≤ 4096) (i : Nat) (hi : i < chunksN d.sz) (hgb : getB d.known i = false) (session : Int) (sum : Nat) (bs : List Int) (hb : OkB bs) (hl : (bs.length : Int) = sizeN d.sz i) (hno : popB (setB d.known i) < chunksN d.sz) (A2 : Option Addr) (c2' : Nat) (FS : Nat → Prop) (hS : Foot (SliceR 1 (.slice A2 bs.length c2') bs.length (u8s bs)) w FS) (hFS : ∀ j, FS j → ¬ RF g rc.st b p k j) :
    Calls Tryz.prog 110 #[.pointer (some ⟨g, 0, none⟩), .agg #[.int .i64 2, .int .u64 session, .int .i64 i, .int .i64 (chunksN d.sz : Nat), .int .u32 (sum : Nat), .slice none 0 0, .slice A2 bs.length c2']] w fun e w' => e = .returned (.slice none 0 0) ∧ ∃ p' G' k' Gk', RcvAt g { rc with closed := false, resumed := false } b p' (d.more i bs) G' k' Gk' w' ∧ Keep (RF g rc.st b p k) w w' ∧ p'.wb = p.wb ∧ k'.lo.n = k.lo.n + 1 ∧ k'.n = k.n + 1 ∧ k'.nt = k.nt ∧ ∀ j, (RF g rc.st b p' k' j ∨ G' j ∨ Gk' j) → (RF g rc.st b p k j ∨ G j ∨ Gk j) ∨ w.heap.size ≤ j := by
 have hg0 := (Keep.refl NoB w).alloc (.cells #[.int .i64 2, .int .u64 session, .int .i64 i, .int .i64 (chunksN d.sz : Nat), .int .u32 (sum : Nat), .slice none 0 0, .slice A2 bs.length c2'] 46)
 have HZ := LH (heap_alloc_new w (.cells #[.int .i64 2, .int .u64 session, .int .i64 i, .int .i64 (chunksN d.sz : Nat), .int .u32 (sum : Nat), .slice none 0 0, .slice A2 bs.length c2'] 46))
 have HLT : Hid (g < w.heap.size) := LH h.cell.lt
 have H := LH (h.grow hg0)
 have HG := LH hg0
 have HGB := LH hgb
 have HBB := LH (And.intro hb hl)
 have HS := LH (hS.grow hg0)
 have HFS : Hid (∀ j, FS j → ¬ j = g ∧ ¬ RF g rc.st b p k j) := LH (fun j hj => ⟨fun e => hFS j hj (.inl e), hFS j hj⟩)
 have hfew := h.pat.ok.few
 have hlen : 0 < bs.length ∧ bs.length ≤ 64 := by
  have h1 := fits_parts h.pat.ok.fit
  have h2 : 0 ≤ d.sz.sum := sum_nn h1.2.2.1
  unfold chunksN at hi
  unfold sizeN at hl
  omega
 have HBP : Hid (w.heap.size ≠ b ∧ w.heap.size ≠ p.wb) := LH (by have := h.pat.lt; omega)
 clear hgb hb hl hS hFS
 clear h hg0
 go_enter Tryz.func110, Tryz.ntmps110
 obtain ⟨c0, c1, c2, c3, c4, c5, c6, c7, c8, c9, c10, c11, c12, c13, c14, c15, c16, c17, c18, c19, c20, cf⟩ := cells21 H.out.cell
 go_wp2
 have h2 := H.out.put (rc' := { rc with closed := false }) 20 (.bool false) rfl rfl rfl
 have HGN : Hid (¬ w.heap.size = g) := LH (fun e => by have := HLT.out; omega)
 replace HZ := LH ((h2.2.block _ (gE HZ.out).1 HGN.out).trans HZ.out)
 have HK := LH ((HG.out.mono (T := fun k => k = g) (fun _ h => h.elim)).trans h2.2 (fun _ h => .inl h))
 replace HS := LH (HS.out.keep h2.2 (fun j hj => (HFS.out j hj).1))
 replace H := LH h2.1
 clear h2 HG c0 c1 c2 c3 c4 c5 c6 c7 c8 c9 c10 c11 c12 c13 c14 c15 c16 c17 c18 c19 c20 cf
 generalize (w.alloc (.cells #[.int .i64 2, .int .u64 session, .int .i64 i, .int .i64 (chunksN d.sz : Nat), .int .u32 (sum : Nat), .slice none 0 0, .slice A2 bs.length c2'] 46)).setCell ⟨g, 20, none⟩ (.bool false) = w2 at H HZ HK HS ⊢
 obtain ⟨c0, c1, c2, c3, c4, c5, c6, c7, c8, c9, c10, c11, c12, c13, c14, c15, c16, c17, c18, c19, c20, cf⟩ := cells21 H.out.cell
 rw [show ({ rc with closed := false } : RC).part = some ⟨b, 0, none⟩ from H.out.part] at c0
 rw [show ({ rc with closed := false } : RC).phase = 1 from hph] at c6
 obtain ⟨z0, z1, z2, z3, z4, z5, z6, zf⟩ := cells7 HZ.out
 go_wp2
 refine region_ord [0, 1, 2, 3, 4, 5, 6, 7, 8, 9, 10, 11, 12, 13, 14, 15, 16, 17, 18, 19, 20, 21, 22] [19, 20] [3, 9, 14, 18] [] rfl (by kernel_rfl) ?_
 iterate 3
  refine ord_pure rfl rfl rfl rfl rfl (fun _ _ _ _ h => h) ?_ ?_ ?_ ?_ ?_
  rotate_left 2
  ·intro w'; go_simp; with_reducible rfl
  ·simp only [Act.put, pB, pC, pD]; rfl
 refine ord_read rfl rfl rfl rfl rfl (fun _ _ _ _ h => h) ?_ ?_ ?_ ?_ ?_
 rotate_left 2
 ·intro w' hg; have q := hg.cell c6 (fun h => h); go_simp; with_reducible rfl
 ·simp only [Act.put, pB, pC, pD]; rfl
 iterate 2
  refine ord_pure rfl rfl rfl rfl rfl (fun _ _ _ _ h => h) ?_ ?_ ?_ ?_ ?_
  rotate_left 2
  ·intro w'; go_simp; with_reducible rfl
  ·simp only [Act.put, pB, pC, pD]; rfl
 iterate 3
  refine ord_pureG rfl rfl rfl rfl rfl (fun _ _ _ _ h => h) ?_ ?_ ?_ ?_ ?_
  rotate_left 2
  ·intro w'; go_simp; with_reducible rfl
  ·simp only [Act.put, pB, pC, pD]; rfl
 refine ord_readG rfl rfl rfl rfl rfl (fun _ _ _ _ h => h) ?_ ?_ ?_ ?_ ?_
 rotate_left 2
 ·intro w' hg; have q := hg.cell c0 (fun h => h); go_simp; with_reducible rfl
 ·simp only [Act.put, pB, pC, pD]; rfl
 refine ord_pureG rfl rfl rfl rfl rfl (fun _ _ _ _ h => h) ?_ ?_ ?_ ?_ ?_
 rotate_left 2
 ·intro w'; go_simp; with_reducible rfl
 ·simp only [Act.put, pB, pC, pD]; rfl
 iterate 2
  refine ord_pure rfl rfl rfl rfl rfl (fun _ _ _ _ h => h) ?_ ?_ ?_ ?_ ?_
  rotate_left 2
  ·intro w'; go_simp; with_reducible rfl
  ·simp only [Act.put, pB, pC, pD]; rfl
 refine ord_pureG rfl rfl rfl rfl rfl (fun _ _ _ _ h => h) ?_ ?_ ?_ ?_ ?_
 rotate_left 2
 ·intro w'; go_simp; with_reducible rfl
 ·simp only [Act.put, pB, pC, pD]; rfl
 refine ord_readG rfl rfl rfl rfl rfl (fun _ _ _ _ h => h) ?_ ?_ ?_ ?_ ?_
 rotate_left 2
 ·intro w' hg; have q := hg.cell z3 (fun h => h); go_simp; with_reducible rfl
 ·simp only [Act.put, pB, pC, pD]; rfl
 iterate 3
  refine ord_pureG rfl rfl rfl rfl rfl (fun _ _ _ _ h => h) ?_ ?_ ?_ ?_ ?_
  rotate_left 2
  ·intro w'; go_simp; with_reducible rfl
  ·simp only [Act.put, pB, pC, pD]; rfl
 refine ord_readG rfl rfl rfl rfl rfl (fun _ _ _ _ h => h) ?_ ?_ ?_ ?_ ?_
 rotate_left 2
 ·intro w' hg; have q := hg.cell c0 (fun h => h); go_simp; with_reducible rfl
 ·simp only [Act.put, pB, pC, pD]; rfl
 refine ord_callG rfl rfl rfl rfl rfl Tryz.func118 rfl rfl [.pointer (some ⟨b, 0, none⟩)] rfl ?_
 refine (pmani_calls (H.out.pat.grow (Keep.refl NoB w2).drew)).mono ?_
 rintro e w3 ⟨A4, c4', rfl, hg4, ho4⟩
 refine ⟨_, rfl, fun _ => hg4, ?_⟩
 simp only [Act.put, pB, pC, pD]
 refine ord_callG rfl rfl rfl rfl rfl Tryz.func64 rfl rfl [.agg #[.int .u64 d.session, .slice A4 d.sz.length c4', .int .u32 (d.sum : Nat)]] rfl ?_
 refine (mchunks_calls d.session d.sum A4 c4' d.sz w3 (SliceR.of_own ho4) H.out.pat.ok.fit).mono ?_
 rintro e w4 ⟨rfl, hg5⟩
 refine ⟨_, rfl, fun _ => hg5, ?_⟩
 simp only [Act.put, pB, pC, pD]
 refine ord_pureG rfl rfl rfl rfl rfl (fun _ _ _ _ h => h) ?_ ?_ ?_ ?_ ?_
 rotate_left 2
 ·intro w'; go_simp; with_reducible rfl
 ·simp only [Act.put, pB, pC, pD]; rfl
 refine ord_pure rfl rfl rfl rfl rfl (fun _ _ _ _ h => h) ?_ ?_ ?_ ?_ ?_
 rotate_left 2
 ·intro w'; go_simp; with_reducible rfl
 ·simp only [Act.put, pB, pC, pD]; rfl
 refine ord_nil ?_
 have hgd := ((Keep.refl NoB w2).drew.grow hg4).grow hg5
 replace H := LH (H.out.grow hgd)
 replace HK := LH (HK.out.grow hgd)
 replace HZ := LH (Grow.heap hgd HZ.out)
 replace HS := LH (HS.out.grow hgd)
 clear hg4 hg5 ho4 hgd c0 c1 c2 c3 c4 c5 c6 c7 c8 c9 c10 c11 c12 c13 c14 c15 c16 c17 c18 c19 c20 cf z0 z1 z2 z3 z4 z5 z6 zf
 obtain ⟨c0, c1, c2, c3, c4, c5, c6, c7, c8, c9, c10, c11, c12, c13, c14, c15, c16, c17, c18, c19, c20, cf⟩ := cells21 H.out.cell
 go_wp2
 have h2 := H.out.put (rc' := { rc with closed := false, resumed := false }) 19 (.bool false) rfl rfl rfl
 replace HZ := LH ((h2.2.block _ (gE HZ.out).1 HGN.out).trans HZ.out)
 replace HK := LH (HK.out.trans h2.2 (fun _ h => .inl h))
 replace HS := LH (HS.out.keep h2.2 (fun j hj => (HFS.out j hj).1))
 replace H := LH h2.1
 clear h2 c0 c1 c2 c3 c4 c5 c6 c7 c8 c9 c10 c11 c12 c13 c14 c15 c16 c17 c18 c19 c20 cf
 generalize w4.setCell ⟨g, 19, none⟩ (.bool false) = w5 at H HZ HK HS ⊢
 obtain ⟨c0, c1, c2, c3, c4, c5, c6, c7, c8, c9, c10, c11, c12, c13, c14, c15, c16, c17, c18, c19, c20, cf⟩ := cells21 H.out.cell
 obtain ⟨z0, z1, z2, z3, z4, z5, z6, zf⟩ := cells7 HZ.out
 rw [show ({ rc with closed := false, resumed := false } : RC).part = some ⟨b, 0, none⟩ from H.out.part] at c0
 refine region_ord [0, 1, 2, 3, 5, 6, 4, 7, 8] [4, 7, 8] [3, 6] [] rfl (by kernel_rfl) ?_
 iterate 3
  refine ord_pure rfl rfl rfl rfl rfl (fun _ _ _ _ h => h) ?_ ?_ ?_ ?_ ?_
  rotate_left 2
  ·intro w'; go_simp; with_reducible rfl
  ·simp only [Act.put, pB, pC, pD]; rfl
 refine ord_read rfl rfl rfl rfl rfl (fun _ _ _ _ h => h) ?_ ?_ ?_ ?_ ?_
 rotate_left 2
 ·intro w' hg; have q := hg.cell c0 (fun h => h); go_simp; with_reducible rfl
 ·simp only [Act.put, pB, pC, pD]; rfl
 refine ord_pure rfl rfl rfl rfl rfl (fun _ _ _ _ h => h) ?_ ?_ ?_ ?_ ?_
 rotate_left 2
 ·intro w'; go_simp; with_reducible rfl
 ·simp only [Act.put, pB, pC, pD]; rfl
 refine ord_read rfl rfl rfl rfl rfl (fun _ _ _ _ h => h) ?_ ?_ ?_ ?_ ?_
 rotate_left 2
 ·intro w' hg; have q := hg.cell z2 (fun h => h); go_simp; with_reducible rfl
 ·simp only [Act.put, pB, pC, pD]; rfl
 refine ord_call rfl rfl rfl rfl rfl Tryz.func117 rfl rfl [.pointer (some ⟨b, 0, none⟩)] rfl ?_
 refine (pknown_calls (H.out.pat.grow (Keep.refl NoB w5).drew)).mono ?_
 rintro e w6 ⟨A6, c6', rfl, hg6, ho6⟩
 refine ⟨_, rfl, fun _ => hg6, ?_⟩
 simp only [Act.put, pB, pC, pD]
 refine ord_call rfl rfl rfl rfl rfl Tryz.func82 rfl rfl [.slice A6 d.known.length c6', .int .i64 i] rfl ?_
 refine (bget_calls A6 c6' d.known H.out.pat.ok.known i (by have := H.out.pat.ok.few; omega) w6 (SliceR.of_own ho6)).mono ?_
 rintro e w7 ⟨rfl, rfl⟩
 refine ⟨_, rfl, fun _ => Keep.refl _ _, ?_⟩
 simp only [Act.put, pB, pC, pD]
 rw [HGB.out]
 refine ord_set rfl rfl rfl rfl ?_ ?_ ?_ ?_ ?_
 rotate_left 2
 ·go_simp; with_reducible rfl
 ·simp only [Act.put, pB, pC, pD]; rfl
 refine ord_nil ?_
 have hgd := (Keep.refl NoB w5).drew.grow hg6
 replace H := LH (H.out.grow hgd)
 replace HK := LH (HK.out.grow hgd)
 replace HZ := LH (Grow.heap hgd HZ.out)
 replace HS := LH (HS.out.grow hgd)
 clear hg6 ho6 hgd c0 c1 c2 c3 c4 c5 c6 c7 c8 c9 c10 c11 c12 c13 c14 c15 c16 c17 c18 c19 c20 cf z0 z1 z2 z3 z4 z5 z6 zf
 obtain ⟨c0, c1, c2, c3, c4, c5, c6, c7, c8, c9, c10, c11, c12, c13, c14, c15, c16, c17, c18, c19, c20, cf⟩ := cells21 H.out.cell
 obtain ⟨z0, z1, z2, z3, z4, z5, z6, zf⟩ := cells7 HZ.out
 rw [show ({ rc with closed := false, resumed := false } : RC).part = some ⟨b, 0, none⟩ from H.out.part] at c0
 go_wp2
 refine region_ord [0, 1, 2, 3, 4, 5, 6, 7, 8, 9] [8] [3, 5, 7] [8] rfl (by kernel_rfl) ?_
 iterate 3
  refine ord_pure rfl rfl rfl rfl rfl (fun _ _ _ _ h => h) ?_ ?_ ?_ ?_ ?_
  rotate_left 2
  ·intro w'; go_simp; with_reducible rfl
  ·simp only [Act.put, pB, pC, pD]; rfl
 refine ord_read rfl rfl rfl rfl rfl (fun _ _ _ _ h => h) ?_ ?_ ?_ ?_ ?_
 rotate_left 2
 ·intro w' hg; have q := hg.cell c0 (fun h => h); go_simp; with_reducible rfl
 ·simp only [Act.put, pB, pC, pD]; rfl
 refine ord_pure rfl rfl rfl rfl rfl (fun _ _ _ _ h => h) ?_ ?_ ?_ ?_ ?_
 rotate_left 2
 ·intro w'; go_simp; with_reducible rfl
 ·simp only [Act.put, pB, pC, pD]; rfl
 refine ord_read rfl rfl rfl rfl rfl (fun _ _ _ _ h => h) ?_ ?_ ?_ ?_ ?_
 rotate_left 2
 ·intro w' hg; have q := hg.cell z2 (fun h => h); go_simp; with_reducible rfl
 ·simp only [Act.put, pB, pC, pD]; rfl
 refine ord_pure rfl rfl rfl rfl rfl (fun _ _ _ _ h => h) ?_ ?_ ?_ ?_ ?_
 rotate_left 2
 ·intro w'; go_simp; with_reducible rfl
 ·simp only [Act.put, pB, pC, pD]; rfl
 refine ord_read rfl rfl rfl rfl rfl (fun _ _ _ _ h => h) ?_ ?_ ?_ ?_ ?_
 rotate_left 2
 ·intro w' hg; have q := hg.cell z6 (fun h => h); go_simp; with_reducible rfl
 ·simp only [Act.put, pB, pC, pD]; rfl
 refine ord_call rfl rfl rfl rfl rfl Tryz.func106 rfl rfl [.pointer (some ⟨b, 0, none⟩), .int .i64 i, .slice A2 bs.length c2'] rfl ?_
 refine (pput_new (H.out.pat.grow (Keep.refl NoB w6).drew) i hi HGB.out A2 c2' bs HBB.out.1 HBB.out.2 FS (HS.out.grow (Keep.refl NoB w6).drew) (fun j hj e => (HFS.out j hj).2 (.inr (.inr (.inl e))))).mono ?_
 rintro e w8 ⟨rfl, p', G', hwb, hP', hk8, hG'⟩
 refine ⟨_, rfl, fun h => absurd (by simp) h, ?_⟩
 simp only [Act.put, pB, pC, pD]
 refine ord_pure rfl rfl rfl rfl rfl (fun _ _ _ _ h => h) ?_ ?_ ?_ ?_ ?_
 rotate_left 2
 ·intro w'; go_simp; with_reducible rfl
 ·simp only [Act.put, pB, pC, pD]; rfl
 refine ord_nil ?_
 have hHn := (H.out.grow (Keep.refl NoB w6).drew).morePart (d' := d.more i bs) hwb hP' hk8 hG'
 have HGP : Hid (∀ j, G' j → G j ∨ w.heap.size ≤ j) := LH (fun j hj => (hG' j hj).imp id (fun h => Nat.le_trans HK.out.size h))
 replace HS := LH ((HS.out.grow (Keep.refl NoB w6).drew).keep hk8 (fun j hj e => (HFS.out j hj).2 (.inr (e.imp id .inl))))
 have hzn := HGN.out
 have HWB := LH (show w.heap.size ≠ b ∧ w.heap.size ≠ p.wb from HBP.out)
 replace HZ := LH ((hk8.block w.heap.size (gE (show w6.drew.heap[w.heap.size]? = _ from HZ.out)).1 (fun e => e.elim HWB.out.1 HWB.out.2)).trans (show w6.drew.heap[w.heap.size]? = _ from HZ.out))
 replace HK := LH ((HK.out.drew.mono (T := RF g rc.st b p k) (fun _ h => .inl h)).trans hk8 (fun j hj => .inl (.inr (hj.imp id .inl))))
 have HWB2 := LH hwb
 replace H := LH hHn
 clear hHn hzn hwb hP' hk8 hG' c0 c1 c2 c3 c4 c5 c6 c7 c8 c9 c10 c11 c12 c13 c14 c15 c16 c17 c18 c19 c20 cf z0 z1 z2 z3 z4 z5 z6 zf
 obtain ⟨c0, c1, c2, c3, c4, c5, c6, c7, c8, c9, c10, c11, c12, c13, c14, c15, c16, c17, c18, c19, c20, cf⟩ := cells21 H.out.cell
 obtain ⟨z0, z1, z2, z3, z4, z5, z6, zf⟩ := cells7 HZ.out
 go_wp2
 refine region_ord [0, 1, 2, 3, 4, 5, 6, 7, 8] [8] [3, 5, 7] [8] rfl (by kernel_rfl) ?_
 iterate 3
  refine ord_pure rfl rfl rfl rfl rfl (fun _ _ _ _ h => h) ?_ ?_ ?_ ?_ ?_
  rotate_left 2
  ·intro w'; go_simp; with_reducible rfl
  ·simp only [Act.put, pB, pC, pD]; rfl
 refine ord_read rfl rfl rfl rfl rfl (fun _ _ _ _ h => h) ?_ ?_ ?_ ?_ ?_
 rotate_left 2
 ·intro w' hg; have q := hg.cell c5 (fun h => h); go_simp; with_reducible rfl
 ·simp only [Act.put, pB, pC, pD]; rfl
 refine ord_pure rfl rfl rfl rfl rfl (fun _ _ _ _ h => h) ?_ ?_ ?_ ?_ ?_
 rotate_left 2
 ·intro w'; go_simp; with_reducible rfl
 ·simp only [Act.put, pB, pC, pD]; rfl
 refine ord_read rfl rfl rfl rfl rfl (fun _ _ _ _ h => h) ?_ ?_ ?_ ?_ ?_
 rotate_left 2
 ·intro w' hg; have q := hg.cell z2 (fun h => h); go_simp; with_reducible rfl
 ·simp only [Act.put, pB, pC, pD]; rfl
 refine ord_pure rfl rfl rfl rfl rfl (fun _ _ _ _ h => h) ?_ ?_ ?_ ?_ ?_
 rotate_left 2
 ·intro w'; go_simp; with_reducible rfl
 ·simp only [Act.put, pB, pC, pD]; rfl
 refine ord_read rfl rfl rfl rfl rfl (fun _ _ _ _ h => h) ?_ ?_ ?_ ?_ ?_
 rotate_left 2
 ·intro w' hg; have q := hg.cell z6 (fun h => h); go_simp; with_reducible rfl
 ·simp only [Act.put, pB, pC, pD]; rfl
 refine ord_call rfl rfl rfl rfl rfl Tryz.func182 rfl rfl [.pointer (some ⟨rc.st, 0, none⟩), .int .i64 i, .slice A2 bs.length c2'] rfl ?_
 refine (kput_calls (s := rc.st) (H.out.kat.grow (Keep.refl NoB w8).drew) hkn hkn2 i (by omega) A2 bs c2' hlen.2 hlen.1 (HS.out.grow (Keep.refl NoB w8).drew).now).mono ?_
 rintro e w9 ⟨rfl, x, A9, c9', hxb, hK9, hk9, hx9, hlo9⟩
 refine ⟨_, rfl, fun h => absurd (by simp) h, ?_⟩
 simp only [Act.put, pB, pC, pD]
 refine ord_nil ?_
 have hdz : w8.drew.heap.size = w8.heap.size := rfl
 have hHn := (H.out.grow (Keep.refl NoB w8).drew).moreStore (k' := (k.put i x).step A9 c9') hK9 hk9 (fun j hj => by
  rcases hj with e | e | e
  ·exact .inl (.inl e)
  ·exact .inl (.inr (.inl e))
  ·exact (hlo9 j e).imp (fun h => .inr (.inr h)) id) (fun j hj => hj.imp id (fun e => by rw [e]; exact hx9))
 have HRF : Hid (∀ j, (RF g rc.st b p' ((k.put i x).step A9 c9') j ∨ G' j ∨ (Gk j ∨ j = x.b)) → (RF g rc.st b p k j ∨ G j ∨ Gk j) ∨ w.heap.size ≤ j) := LH (fun j hj => by
  rcases hj with (e | e | e | e | e | e) | e | e | e
  ·exact .inl (.inl (.inl e))
  ·exact .inl (.inl (.inr (.inl e)))
  ·rw [HWB2.out] at e; exact .inl (.inl (.inr (.inr (.inl e))))
  ·exact .inl (.inl (.inr (.inr (.inr (.inl e)))))
  ·exact .inl (.inl (.inr (.inr (.inr (.inr (.inl e))))))
  ·rcases hlo9 j e with h | h
   ·exact .inl (.inl (.inr (.inr (.inr (.inr (.inr h))))))
   ·exact .inr (by have := HK.out.size; omega)
  ·exact (HGP.out j e).imp (fun h => .inr (.inl h)) id
  ·exact .inl (.inr (.inr e))
  ·exact .inr (by have := HK.out.size; omega))
 replace HK := LH (HK.out.drew.trans hk9 (fun j hj => .inl (.inr (.inr (.inr hj)))))
 have HKN : Hid (((k.put i x).step A9 c9').lo.n = k.lo.n + 1 ∧ ((k.put i x).step A9 c9').n = k.n + 1 ∧ ((k.put i x).step A9 c9').nt = k.nt) := LH ⟨rfl, rfl, rfl⟩
 obtain ⟨k', hk'⟩ : ∃ k', (k.put i x).step A9 c9' = k' := ⟨_, rfl⟩
 rw [hk'] at hHn HRF HKN
 obtain ⟨Gk', hGk'⟩ : ∃ Gk' : Nat → Prop, (fun j => Gk j ∨ j = x.b) = Gk' := ⟨_, rfl⟩
 rw [hGk'] at hHn
 rw [show (∀ j, (RF g rc.st b p' k' j ∨ G' j ∨ (Gk j ∨ j = x.b)) → (RF g rc.st b p k j ∨ G j ∨ Gk j) ∨ w.heap.size ≤ j) = (∀ j, (RF g rc.st b p' k' j ∨ G' j ∨ Gk' j) → (RF g rc.st b p k j ∨ G j ∨ Gk j) ∨ w.heap.size ≤ j) from by rw [← hGk']] at HRF
 replace H := LH hHn
 clear hHn hk' hGk' hxb hK9 hk9 hx9 hlo9 hdz HZ HS c0 c1 c2 c3 c4 c5 c6 c7 c8 c9 c10 c11 c12 c13 c14 c15 c16 c17 c18 c19 c20 cf z0 z1 z2 z3 z4 z5 z6 zf
 go_wp2_with fail
 refine (rcheck_no H.out.cell H.out.part H.out.pat hno).mono ?_
 rintro e w10 ⟨⟨v, rfl⟩, hg9⟩
 replace H := LH (H.out.grow hg9)
 replace HK := LH (HK.out.grow hg9)
 clear hg9
 obtain ⟨c0, c1, c2, c3, c4, c5, c6, c7, c8, c9, c10, c11, c12, c13, c14, c15, c16, c17, c18, c19, c20, cf⟩ := cells21 H.out.cell
 rw [show ({ rc with closed := false, resumed := false } : RC).phase = 1 from hph] at c6
 go_wp2
 go_ret
 exact ⟨rfl, p', G', k', Gk', H.out, HK.out, HWB2.out, HKN.out.1, HKN.out.2.1, HKN.out.2.2, HRF.out⟩
theorem rdata_ok {g b : Nat} {rc : RC} {p : PP} {d : Par} {G : Nat → Prop} {k : KS} {Gk : Nat → Prop} {w : World} (h : RcvAt g rc b p d G k Gk w) (hph : rc.phase = 1) (hkn : k.lo.n ≤ 4096) (hkn2 : k.n ≤ 4096) (i : Nat) (hi : i < chunksN d.sz) (hgb : getB d.known i = false) (session : Int) (sum : Nat) (bs : List Int) (hb : OkB bs) (hl : (bs.length : Int) = sizeN d.sz i) (hall : chunksN d.sz ≤ popB (setB d.known i)) (he : ∀ rc : RC, rc.ended (d.more i bs) = { rc with phase := 2 }) (A2 : Option Addr) (c2' : Nat) (FS : Nat → Prop) (hS : Foot (SliceR 1 (.slice A2 bs.length c2') bs.length (u8s bs)) w FS) (hFS : ∀ j, FS j → ¬ RF g rc.st b p k j) :
    Calls Tryz.prog 110 #[.pointer (some ⟨g, 0, none⟩), .agg #[.int .i64 2, .int .u64 session, .int .i64 i, .int .i64 (chunksN d.sz : Nat), .int .u32 (sum : Nat), .slice none 0 0, .slice A2 bs.length c2']] w fun e w' => e = .returned (.slice none 0 0) ∧ ∃ p' G' k' Gk', RcvAt g { rc with closed := false, resumed := false, phase := 2 } b p' (d.more i bs) G' k' Gk' w' ∧ Keep (RF g rc.st b p k) w w' ∧ p'.wb = p.wb ∧ k'.lo.n = k.lo.n + 1 ∧ k'.n = k.n + 1 ∧ k'.nt = k.nt ∧ ∀ j, (RF g rc.st b p' k' j ∨ G' j ∨ Gk' j) → (RF g rc.st b p k j ∨ G j ∨ Gk j) ∨ w.heap.size ≤ j := by
 have hg0 := (Keep.refl NoB w).alloc (.cells #[.int .i64 2, .int .u64 session, .int .i64 i, .int .i64 (chunksN d.sz : Nat), .int .u32 (sum : Nat), .slice none 0 0, .slice A2 bs.length c2'] 46)
 have HZ := LH (heap_alloc_new w (.cells #[.int .i64 2, .int .u64 session, .int .i64 i, .int .i64 (chunksN d.sz : Nat), .int .u32 (sum : Nat), .slice none 0 0, .slice A2 bs.length c2'] 46))
 have HLT : Hid (g < w.heap.size) := LH h.cell.lt
 have H := LH (h.grow hg0)
 have HG := LH hg0
 have HGB := LH hgb
 have HBB := LH (And.intro hb hl)
 have HS := LH (hS.grow hg0)
 have HFS : Hid (∀ j, FS j → ¬ j = g ∧ ¬ RF g rc.st b p k j) := LH (fun j hj => ⟨fun e => hFS j hj (.inl e), hFS j hj⟩)
 have hfew := h.pat.ok.few
 have hlen : 0 < bs.length ∧ bs.length ≤ 64 := by
  have h1 := fits_parts h.pat.ok.fit
  have h2 : 0 ≤ d.sz.sum := sum_nn h1.2.2.1
  unfold chunksN at hi
  unfold sizeN at hl
  omega
 have HBP : Hid (w.heap.size ≠ b ∧ w.heap.size ≠ p.wb) := LH (by have := h.pat.lt; omega)
 clear hgb hb hl hS hFS
 have HE := LH he
 clear he
 clear h hg0
 go_enter Tryz.func110, Tryz.ntmps110
 obtain ⟨c0, c1, c2, c3, c4, c5, c6, c7, c8, c9, c10, c11, c12, c13, c14, c15, c16, c17, c18, c19, c20, cf⟩ := cells21 H.out.cell
 go_wp2
 have h2 := H.out.put (rc' := { rc with closed := false }) 20 (.bool false) rfl rfl rfl
 have HGN : Hid (¬ w.heap.size = g) := LH (fun e => by have := HLT.out; omega)
 replace HZ := LH ((h2.2.block _ (gE HZ.out).1 HGN.out).trans HZ.out)
 have HK := LH ((HG.out.mono (T := fun k => k = g) (fun _ h => h.elim)).trans h2.2 (fun _ h => .inl h))
 replace HS := LH (HS.out.keep h2.2 (fun j hj => (HFS.out j hj).1))
 replace H := LH h2.1
 clear h2 HG c0 c1 c2 c3 c4 c5 c6 c7 c8 c9 c10 c11 c12 c13 c14 c15 c16 c17 c18 c19 c20 cf
 generalize (w.alloc (.cells #[.int .i64 2, .int .u64 session, .int .i64 i, .int .i64 (chunksN d.sz : Nat), .int .u32 (sum : Nat), .slice none 0 0, .slice A2 bs.length c2'] 46)).setCell ⟨g, 20, none⟩ (.bool false) = w2 at H HZ HK HS ⊢
 obtain ⟨c0, c1, c2, c3, c4, c5, c6, c7, c8, c9, c10, c11, c12, c13, c14, c15, c16, c17, c18, c19, c20, cf⟩ := cells21 H.out.cell
 rw [show ({ rc with closed := false } : RC).part = some ⟨b, 0, none⟩ from H.out.part] at c0
 rw [show ({ rc with closed := false } : RC).phase = 1 from hph] at c6
 obtain ⟨z0, z1, z2, z3, z4, z5, z6, zf⟩ := cells7 HZ.out
 go_wp2
 refine region_ord [0, 1, 2, 3, 4, 5, 6, 7, 8, 9, 10, 11, 12, 13, 14, 15, 16, 17, 18, 19, 20, 21, 22] [19, 20] [3, 9, 14, 18] [] rfl (by kernel_rfl) ?_
 iterate 3
  refine ord_pure rfl rfl rfl rfl rfl (fun _ _ _ _ h => h) ?_ ?_ ?_ ?_ ?_
  rotate_left 2
  ·intro w'; go_simp; with_reducible rfl
  ·simp only [Act.put, pB, pC, pD]; rfl
 refine ord_read rfl rfl rfl rfl rfl (fun _ _ _ _ h => h) ?_ ?_ ?_ ?_ ?_
 rotate_left 2
 ·intro w' hg; have q := hg.cell c6 (fun h => h); go_simp; with_reducible rfl
 ·simp only [Act.put, pB, pC, pD]; rfl
 iterate 2
  refine ord_pure rfl rfl rfl rfl rfl (fun _ _ _ _ h => h) ?_ ?_ ?_ ?_ ?_
  rotate_left 2
  ·intro w'; go_simp; with_reducible rfl
  ·simp only [Act.put, pB, pC, pD]; rfl
 iterate 3
  refine ord_pureG rfl rfl rfl rfl rfl (fun _ _ _ _ h => h) ?_ ?_ ?_ ?_ ?_
  rotate_left 2
  ·intro w'; go_simp; with_reducible rfl
  ·simp only [Act.put, pB, pC, pD]; rfl
 refine ord_readG rfl rfl rfl rfl rfl (fun _ _ _ _ h => h) ?_ ?_ ?_ ?_ ?_
 rotate_left 2
 ·intro w' hg; have q := hg.cell c0 (fun h => h); go_simp; with_reducible rfl
 ·simp only [Act.put, pB, pC, pD]; rfl
 refine ord_pureG rfl rfl rfl rfl rfl (fun _ _ _ _ h => h) ?_ ?_ ?_ ?_ ?_
 rotate_left 2
 ·intro w'; go_simp; with_reducible rfl
 ·simp only [Act.put, pB, pC, pD]; rfl
 iterate 2
  refine ord_pure rfl rfl rfl rfl rfl (fun _ _ _ _ h => h) ?_ ?_ ?_ ?_ ?_
  rotate_left 2
  ·intro w'; go_simp; with_reducible rfl
  ·simp only [Act.put, pB, pC, pD]; rfl
 refine ord_pureG rfl rfl rfl rfl rfl (fun _ _ _ _ h => h) ?_ ?_ ?_ ?_ ?_
 rotate_left 2
 ·intro w'; go_simp; with_reducible rfl
 ·simp only [Act.put, pB, pC, pD]; rfl
 refine ord_readG rfl rfl rfl rfl rfl (fun _ _ _ _ h => h) ?_ ?_ ?_ ?_ ?_
 rotate_left 2
 ·intro w' hg; have q := hg.cell z3 (fun h => h); go_simp; with_reducible rfl
 ·simp only [Act.put, pB, pC, pD]; rfl
 iterate 3
  refine ord_pureG rfl rfl rfl rfl rfl (fun _ _ _ _ h => h) ?_ ?_ ?_ ?_ ?_
  rotate_left 2
  ·intro w'; go_simp; with_reducible rfl
  ·simp only [Act.put, pB, pC, pD]; rfl
 refine ord_readG rfl rfl rfl rfl rfl (fun _ _ _ _ h => h) ?_ ?_ ?_ ?_ ?_
 rotate_left 2
 ·intro w' hg; have q := hg.cell c0 (fun h => h); go_simp; with_reducible rfl
 ·simp only [Act.put, pB, pC, pD]; rfl
 refine ord_callG rfl rfl rfl rfl rfl Tryz.func118 rfl rfl [.pointer (some ⟨b, 0, none⟩)] rfl ?_
 refine (pmani_calls (H.out.pat.grow (Keep.refl NoB w2).drew)).mono ?_
 rintro e w3 ⟨A4, c4', rfl, hg4, ho4⟩
 refine ⟨_, rfl, fun _ => hg4, ?_⟩
 simp only [Act.put, pB, pC, pD]
 refine ord_callG rfl rfl rfl rfl rfl Tryz.func64 rfl rfl [.agg #[.int .u64 d.session, .slice A4 d.sz.length c4', .int .u32 (d.sum : Nat)]] rfl ?_
 refine (mchunks_calls d.session d.sum A4 c4' d.sz w3 (SliceR.of_own ho4) H.out.pat.ok.fit).mono ?_
 rintro e w4 ⟨rfl, hg5⟩
 refine ⟨_, rfl, fun _ => hg5, ?_⟩
 simp only [Act.put, pB, pC, pD]
 refine ord_pureG rfl rfl rfl rfl rfl (fun _ _ _ _ h => h) ?_ ?_ ?_ ?_ ?_
 rotate_left 2
 ·intro w'; go_simp; with_reducible rfl
 ·simp only [Act.put, pB, pC, pD]; rfl
 refine ord_pure rfl rfl rfl rfl rfl (fun _ _ _ _ h => h) ?_ ?_ ?_ ?_ ?_
 rotate_left 2
 ·intro w'; go_simp; with_reducible rfl
 ·simp only [Act.put, pB, pC, pD]; rfl
 refine ord_nil ?_
 have hgd := ((Keep.refl NoB w2).drew.grow hg4).grow hg5
 replace H := LH (H.out.grow hgd)
 replace HK := LH (HK.out.grow hgd)
 replace HZ := LH (Grow.heap hgd HZ.out)
 replace HS := LH (HS.out.grow hgd)
 clear hg4 hg5 ho4 hgd c0 c1 c2 c3 c4 c5 c6 c7 c8 c9 c10 c11 c12 c13 c14 c15 c16 c17 c18 c19 c20 cf z0 z1 z2 z3 z4 z5 z6 zf
 obtain ⟨c0, c1, c2, c3, c4, c5, c6, c7, c8, c9, c10, c11, c12, c13, c14, c15, c16, c17, c18, c19, c20, cf⟩ := cells21 H.out.cell
 go_wp2
 have h2 := H.out.put (rc' := { rc with closed := false, resumed := false }) 19 (.bool false) rfl rfl rfl
 replace HZ := LH ((h2.2.block _ (gE HZ.out).1 HGN.out).trans HZ.out)
 replace HK := LH (HK.out.trans h2.2 (fun _ h => .inl h))
 replace HS := LH (HS.out.keep h2.2 (fun j hj => (HFS.out j hj).1))
 replace H := LH h2.1
 clear h2 c0 c1 c2 c3 c4 c5 c6 c7 c8 c9 c10 c11 c12 c13 c14 c15 c16 c17 c18 c19 c20 cf
 generalize w4.setCell ⟨g, 19, none⟩ (.bool false) = w5 at H HZ HK HS ⊢
 obtain ⟨c0, c1, c2, c3, c4, c5, c6, c7, c8, c9, c10, c11, c12, c13, c14, c15, c16, c17, c18, c19, c20, cf⟩ := cells21 H.out.cell
 obtain ⟨z0, z1, z2, z3, z4, z5, z6, zf⟩ := cells7 HZ.out
 rw [show ({ rc with closed := false, resumed := false } : RC).part = some ⟨b, 0, none⟩ from H.out.part] at c0
 refine region_ord [0, 1, 2, 3, 5, 6, 4, 7, 8] [4, 7, 8] [3, 6] [] rfl (by kernel_rfl) ?_
 iterate 3
  refine ord_pure rfl rfl rfl rfl rfl (fun _ _ _ _ h => h) ?_ ?_ ?_ ?_ ?_
  rotate_left 2
  ·intro w'; go_simp; with_reducible rfl
  ·simp only [Act.put, pB, pC, pD]; rfl
 refine ord_read rfl rfl rfl rfl rfl (fun _ _ _ _ h => h) ?_ ?_ ?_ ?_ ?_
 rotate_left 2
 ·intro w' hg; have q := hg.cell c0 (fun h => h); go_simp; with_reducible rfl
 ·simp only [Act.put, pB, pC, pD]; rfl
 refine ord_pure rfl rfl rfl rfl rfl (fun _ _ _ _ h => h) ?_ ?_ ?_ ?_ ?_
 rotate_left 2
 ·intro w'; go_simp; with_reducible rfl
 ·simp only [Act.put, pB, pC, pD]; rfl
 refine ord_read rfl rfl rfl rfl rfl (fun _ _ _ _ h => h) ?_ ?_ ?_ ?_ ?_
 rotate_left 2
 ·intro w' hg; have q := hg.cell z2 (fun h => h); go_simp; with_reducible rfl
 ·simp only [Act.put, pB, pC, pD]; rfl
 refine ord_call rfl rfl rfl rfl rfl Tryz.func117 rfl rfl [.pointer (some ⟨b, 0, none⟩)] rfl ?_
 refine (pknown_calls (H.out.pat.grow (Keep.refl NoB w5).drew)).mono ?_
 rintro e w6 ⟨A6, c6', rfl, hg6, ho6⟩
 refine ⟨_, rfl, fun _ => hg6, ?_⟩
 simp only [Act.put, pB, pC, pD]
 refine ord_call rfl rfl rfl rfl rfl Tryz.func82 rfl rfl [.slice A6 d.known.length c6', .int .i64 i] rfl ?_
 refine (bget_calls A6 c6' d.known H.out.pat.ok.known i (by have := H.out.pat.ok.few; omega) w6 (SliceR.of_own ho6)).mono ?_
 rintro e w7 ⟨rfl, rfl⟩
 refine ⟨_, rfl, fun _ => Keep.refl _ _, ?_⟩
 simp only [Act.put, pB, pC, pD]
 rw [HGB.out]
 refine ord_set rfl rfl rfl rfl ?_ ?_ ?_ ?_ ?_
 rotate_left 2
 ·go_simp; with_reducible rfl
 ·simp only [Act.put, pB, pC, pD]; rfl
 refine ord_nil ?_
 have hgd := (Keep.refl NoB w5).drew.grow hg6
 replace H := LH (H.out.grow hgd)
 replace HK := LH (HK.out.grow hgd)
 replace HZ := LH (Grow.heap hgd HZ.out)
 replace HS := LH (HS.out.grow hgd)
 clear hg6 ho6 hgd c0 c1 c2 c3 c4 c5 c6 c7 c8 c9 c10 c11 c12 c13 c14 c15 c16 c17 c18 c19 c20 cf z0 z1 z2 z3 z4 z5 z6 zf
 obtain ⟨c0, c1, c2, c3, c4, c5, c6, c7, c8, c9, c10, c11, c12, c13, c14, c15, c16, c17, c18, c19, c20, cf⟩ := cells21 H.out.cell
 obtain ⟨z0, z1, z2, z3, z4, z5, z6, zf⟩ := cells7 HZ.out
 rw [show ({ rc with closed := false, resumed := false } : RC).part = some ⟨b, 0, none⟩ from H.out.part] at c0
 go_wp2
 refine region_ord [0, 1, 2, 3, 4, 5, 6, 7, 8, 9] [8] [3, 5, 7] [8] rfl (by kernel_rfl) ?_
 iterate 3
  refine ord_pure rfl rfl rfl rfl rfl (fun _ _ _ _ h => h) ?_ ?_ ?_ ?_ ?_
  rotate_left 2
  ·intro w'; go_simp; with_reducible rfl
  ·simp only [Act.put, pB, pC, pD]; rfl
 refine ord_read rfl rfl rfl rfl rfl (fun _ _ _ _ h => h) ?_ ?_ ?_ ?_ ?_
 rotate_left 2
 ·intro w' hg; have q := hg.cell c0 (fun h => h); go_simp; with_reducible rfl
 ·simp only [Act.put, pB, pC, pD]; rfl
 refine ord_pure rfl rfl rfl rfl rfl (fun _ _ _ _ h => h) ?_ ?_ ?_ ?_ ?_
 rotate_left 2
 ·intro w'; go_simp; with_reducible rfl
 ·simp only [Act.put, pB, pC, pD]; rfl
 refine ord_read rfl rfl rfl rfl rfl (fun _ _ _ _ h => h) ?_ ?_ ?_ ?_ ?_
 rotate_left 2
 ·intro w' hg; have q := hg.cell z2 (fun h => h); go_simp; with_reducible rfl
 ·simp only [Act.put, pB, pC, pD]; rfl
 refine ord_pure rfl rfl rfl rfl rfl (fun _ _ _ _ h => h) ?_ ?_ ?_ ?_ ?_
 rotate_left 2
 ·intro w'; go_simp; with_reducible rfl
 ·simp only [Act.put, pB, pC, pD]; rfl
 refine ord_read rfl rfl rfl rfl rfl (fun _ _ _ _ h => h) ?_ ?_ ?_ ?_ ?_
 rotate_left 2
 ·intro w' hg; have q := hg.cell z6 (fun h => h); go_simp; with_reducible rfl
 ·simp only [Act.put, pB, pC, pD]; rfl
 refine ord_call rfl rfl rfl rfl rfl Tryz.func106 rfl rfl [.pointer (some ⟨b, 0, none⟩), .int .i64 i, .slice A2 bs.length c2'] rfl ?_
 refine (pput_new (H.out.pat.grow (Keep.refl NoB w6).drew) i hi HGB.out A2 c2' bs HBB.out.1 HBB.out.2 FS (HS.out.grow (Keep.refl NoB w6).drew) (fun j hj e => (HFS.out j hj).2 (.inr (.inr (.inl e))))).mono ?_
 rintro e w8 ⟨rfl, p', G', hwb, hP', hk8, hG'⟩
 refine ⟨_, rfl, fun h => absurd (by simp) h, ?_⟩
 simp only [Act.put, pB, pC, pD]
 refine ord_pure rfl rfl rfl rfl rfl (fun _ _ _ _ h => h) ?_ ?_ ?_ ?_ ?_
 rotate_left 2
 ·intro w'; go_simp; with_reducible rfl
 ·simp only [Act.put, pB, pC, pD]; rfl
 refine ord_nil ?_
 have hHn := (H.out.grow (Keep.refl NoB w6).drew).morePart (d' := d.more i bs) hwb hP' hk8 hG'
 have HGP : Hid (∀ j, G' j → G j ∨ w.heap.size ≤ j) := LH (fun j hj => (hG' j hj).imp id (fun h => Nat.le_trans HK.out.size h))
 replace HS := LH ((HS.out.grow (Keep.refl NoB w6).drew).keep hk8 (fun j hj e => (HFS.out j hj).2 (.inr (e.imp id .inl))))
 have hzn := HGN.out
 have HWB := LH (show w.heap.size ≠ b ∧ w.heap.size ≠ p.wb from HBP.out)
 replace HZ := LH ((hk8.block w.heap.size (gE (show w6.drew.heap[w.heap.size]? = _ from HZ.out)).1 (fun e => e.elim HWB.out.1 HWB.out.2)).trans (show w6.drew.heap[w.heap.size]? = _ from HZ.out))
 replace HK := LH ((HK.out.drew.mono (T := RF g rc.st b p k) (fun _ h => .inl h)).trans hk8 (fun j hj => .inl (.inr (hj.imp id .inl))))
 have HWB2 := LH hwb
 replace H := LH hHn
 clear hHn hzn hwb hP' hk8 hG' c0 c1 c2 c3 c4 c5 c6 c7 c8 c9 c10 c11 c12 c13 c14 c15 c16 c17 c18 c19 c20 cf z0 z1 z2 z3 z4 z5 z6 zf
 obtain ⟨c0, c1, c2, c3, c4, c5, c6, c7, c8, c9, c10, c11, c12, c13, c14, c15, c16, c17, c18, c19, c20, cf⟩ := cells21 H.out.cell
 obtain ⟨z0, z1, z2, z3, z4, z5, z6, zf⟩ := cells7 HZ.out
 go_wp2
 refine region_ord [0, 1, 2, 3, 4, 5, 6, 7, 8] [8] [3, 5, 7] [8] rfl (by kernel_rfl) ?_
 iterate 3
  refine ord_pure rfl rfl rfl rfl rfl (fun _ _ _ _ h => h) ?_ ?_ ?_ ?_ ?_
  rotate_left 2
  ·intro w'; go_simp; with_reducible rfl
  ·simp only [Act.put, pB, pC, pD]; rfl
 refine ord_read rfl rfl rfl rfl rfl (fun _ _ _ _ h => h) ?_ ?_ ?_ ?_ ?_
 rotate_left 2
 ·intro w' hg; have q := hg.cell c5 (fun h => h); go_simp; with_reducible rfl
 ·simp only [Act.put, pB, pC, pD]; rfl
 refine ord_pure rfl rfl rfl rfl rfl (fun _ _ _ _ h => h) ?_ ?_ ?_ ?_ ?_
 rotate_left 2
 ·intro w'; go_simp; with_reducible rfl
 ·simp only [Act.put, pB, pC, pD]; rfl
 refine ord_read rfl rfl rfl rfl rfl (fun _ _ _ _ h => h) ?_ ?_ ?_ ?_ ?_
 rotate_left 2
 ·intro w' hg; have q := hg.cell z2 (fun h => h); go_simp; with_reducible rfl
 ·simp only [Act.put, pB, pC, pD]; rfl
 refine ord_pure rfl rfl rfl rfl rfl (fun _ _ _ _ h => h) ?_ ?_ ?_ ?_ ?_
 rotate_left 2
 ·intro w'; go_simp; with_reducible rfl
 ·simp only [Act.put, pB, pC, pD]; rfl
 refine ord_read rfl rfl rfl rfl rfl (fun _ _ _ _ h => h) ?_ ?_ ?_ ?_ ?_
 rotate_left 2
 ·intro w' hg; have q := hg.cell z6 (fun h => h); go_simp; with_reducible rfl
 ·simp only [Act.put, pB, pC, pD]; rfl
 refine ord_call rfl rfl rfl rfl rfl Tryz.func182 rfl rfl [.pointer (some ⟨rc.st, 0, none⟩), .int .i64 i, .slice A2 bs.length c2'] rfl ?_
 refine (kput_calls (s := rc.st) (H.out.kat.grow (Keep.refl NoB w8).drew) hkn hkn2 i (by omega) A2 bs c2' hlen.2 hlen.1 (HS.out.grow (Keep.refl NoB w8).drew).now).mono ?_
 rintro e w9 ⟨rfl, x, A9, c9', hxb, hK9, hk9, hx9, hlo9⟩
 refine ⟨_, rfl, fun h => absurd (by simp) h, ?_⟩
 simp only [Act.put, pB, pC, pD]
 refine ord_nil ?_
 have hdz : w8.drew.heap.size = w8.heap.size := rfl
 have hHn := (H.out.grow (Keep.refl NoB w8).drew).moreStore (k' := (k.put i x).step A9 c9') hK9 hk9 (fun j hj => by
  rcases hj with e | e | e
  ·exact .inl (.inl e)
  ·exact .inl (.inr (.inl e))
  ·exact (hlo9 j e).imp (fun h => .inr (.inr h)) id) (fun j hj => hj.imp id (fun e => by rw [e]; exact hx9))
 have HRF : Hid (∀ j, (RF g rc.st b p' ((k.put i x).step A9 c9') j ∨ G' j ∨ (Gk j ∨ j = x.b)) → (RF g rc.st b p k j ∨ G j ∨ Gk j) ∨ w.heap.size ≤ j) := LH (fun j hj => by
  rcases hj with (e | e | e | e | e | e) | e | e | e
  ·exact .inl (.inl (.inl e))
  ·exact .inl (.inl (.inr (.inl e)))
  ·rw [HWB2.out] at e; exact .inl (.inl (.inr (.inr (.inl e))))
  ·exact .inl (.inl (.inr (.inr (.inr (.inl e)))))
  ·exact .inl (.inl (.inr (.inr (.inr (.inr (.inl e))))))
  ·rcases hlo9 j e with h | h
   ·exact .inl (.inl (.inr (.inr (.inr (.inr (.inr h))))))
   ·exact .inr (by have := HK.out.size; omega)
  ·exact (HGP.out j e).imp (fun h => .inr (.inl h)) id
  ·exact .inl (.inr (.inr e))
  ·exact .inr (by have := HK.out.size; omega))
 replace HK := LH (HK.out.drew.trans hk9 (fun j hj => .inl (.inr (.inr (.inr hj)))))
 have HKN : Hid (((k.put i x).step A9 c9').lo.n = k.lo.n + 1 ∧ ((k.put i x).step A9 c9').n = k.n + 1 ∧ ((k.put i x).step A9 c9').nt = k.nt) := LH ⟨rfl, rfl, rfl⟩
 obtain ⟨k', hk'⟩ : ∃ k', (k.put i x).step A9 c9' = k' := ⟨_, rfl⟩
 rw [hk'] at hHn HRF HKN
 obtain ⟨Gk', hGk'⟩ : ∃ Gk' : Nat → Prop, (fun j => Gk j ∨ j = x.b) = Gk' := ⟨_, rfl⟩
 rw [hGk'] at hHn
 rw [show (∀ j, (RF g rc.st b p' k' j ∨ G' j ∨ (Gk j ∨ j = x.b)) → (RF g rc.st b p k j ∨ G j ∨ Gk j) ∨ w.heap.size ≤ j) = (∀ j, (RF g rc.st b p' k' j ∨ G' j ∨ Gk' j) → (RF g rc.st b p k j ∨ G j ∨ Gk j) ∨ w.heap.size ≤ j) from by rw [← hGk']] at HRF
 replace H := LH hHn
 clear hHn hk' hGk' hxb hK9 hk9 hx9 hlo9 hdz HZ HS c0 c1 c2 c3 c4 c5 c6 c7 c8 c9 c10 c11 c12 c13 c14 c15 c16 c17 c18 c19 c20 cf z0 z1 z2 z3 z4 z5 z6 zf
 go_wp2_with fail
 refine (rcheck_all H.out.cell H.out.part H.out.pat hall).mono ?_
 rintro e w10 ⟨⟨v, rfl⟩, hR, hkg⟩
 rw [HE.out] at hR
 replace HK := LH (HK.out.trans hkg (fun j hj => .inl (.inl hj)))
 replace H := LH (show RcvAt g { rc with closed := false, resumed := false, phase := 2 } b p' (d.more i bs) G' k' Gk' w10 from ⟨hR, H.out.part, H.out.pat.keep hkg (fun e => H.out.gb.1 e.symm) (fun e => H.out.gb.2.1 e.symm) (fun j hj e => H.out.gb.2.2.1 (by rw [← e]; exact hj)), H.out.kat.keep hkg (fun j hj e => H.out.gb.2.2.2.1 (by rw [← e]; exact hj)) (fun j hj e => H.out.gb.2.2.2.2 (by rw [← e]; exact hj)), H.out.gb, H.out.kf, H.out.kg⟩)
 clear hR hkg
 obtain ⟨c0, c1, c2, c3, c4, c5, c6, c7, c8, c9, c10, c11, c12, c13, c14, c15, c16, c17, c18, c19, c20, cf⟩ := cells21 H.out.cell
 go_wp2
 go_ret
 exact ⟨rfl, p', G', k', Gk', H.out, HK.out, HWB2.out, HKN.out.1, HKN.out.2.1, HKN.out.2.2, HRF.out⟩
theorem rdata_bad {g b : Nat} {rc : RC} {p : PP} {d : Par} {G : Nat → Prop} {k : KS} {Gk : Nat → Prop} {w : World} (h : RcvAt g rc b p d G k Gk w) (hph : rc.phase = 1) (hkn : k.lo.n ≤ 4096) (hkn2 : k.n ≤ 4096) (i : Nat) (hi : i < chunksN d.sz) (hgb : getB d.known i = false) (session : Int) (sum : Nat) (bs : List Int) (hb : OkB bs) (hl : (bs.length : Int) = sizeN d.sz i) (hall : chunksN d.sz ≤ popB (setB d.known i)) (E : Nat) (hE : E ≤ 100) (he : ∀ rc : RC, rc.ended (d.more i bs) = rc.fail E) (A2 : Option Addr) (c2' : Nat) (FS : Nat → Prop) (hS : Foot (SliceR 1 (.slice A2 bs.length c2') bs.length (u8s bs)) w FS) (hFS : ∀ j, FS j → ¬ RF g rc.st b p k j) :
    Calls Tryz.prog 110 #[.pointer (some ⟨g, 0, none⟩), .agg #[.int .i64 2, .int .u64 session, .int .i64 i, .int .i64 (chunksN d.sz : Nat), .int .u32 (sum : Nat), .slice none 0 0, .slice A2 bs.length c2']] w fun e w' => ∃ bb, e = .returned (.slice (some ⟨bb, 0, none⟩) 1 1) ∧ OneG w' bb 5 rc.session E 0 rc.sum ∧ w.heap.size ≤ bb ∧ ∃ rc' : RC, RCell g (rc'.fail E) w' ∧ rc'.st = rc.st ∧ Keep (RF g rc.st b p k) w w' := by
 have hg0 := (Keep.refl NoB w).alloc (.cells #[.int .i64 2, .int .u64 session, .int .i64 i, .int .i64 (chunksN d.sz : Nat), .int .u32 (sum : Nat), .slice none 0 0, .slice A2 bs.length c2'] 46)
 have HZ := LH (heap_alloc_new w (.cells #[.int .i64 2, .int .u64 session, .int .i64 i, .int .i64 (chunksN d.sz : Nat), .int .u32 (sum : Nat), .slice none 0 0, .slice A2 bs.length c2'] 46))
 have HLT : Hid (g < w.heap.size) := LH h.cell.lt
 have H := LH (h.grow hg0)
 have HG := LH hg0
 have HGB := LH hgb
 have HBB := LH (And.intro hb hl)
 have HS := LH (hS.grow hg0)
 have HFS : Hid (∀ j, FS j → ¬ j = g ∧ ¬ RF g rc.st b p k j) := LH (fun j hj => ⟨fun e => hFS j hj (.inl e), hFS j hj⟩)
 have hfew := h.pat.ok.few
 have hlen : 0 < bs.length ∧ bs.length ≤ 64 := by
  have h1 := fits_parts h.pat.ok.fit
  have h2 : 0 ≤ d.sz.sum := sum_nn h1.2.2.1
  unfold chunksN at hi
  unfold sizeN at hl
  omega
 have HBP : Hid (w.heap.size ≠ b ∧ w.heap.size ≠ p.wb) := LH (by have := h.pat.lt; omega)
 clear hgb hb hl hS hFS
 have HE := LH he
 clear he
 clear h hg0
 go_enter Tryz.func110, Tryz.ntmps110
 obtain ⟨c0, c1, c2, c3, c4, c5, c6, c7, c8, c9, c10, c11, c12, c13, c14, c15, c16, c17, c18, c19, c20, cf⟩ := cells21 H.out.cell
 go_wp2
 have h2 := H.out.put (rc' := { rc with closed := false }) 20 (.bool false) rfl rfl rfl
 have HGN : Hid (¬ w.heap.size = g) := LH (fun e => by have := HLT.out; omega)
 replace HZ := LH ((h2.2.block _ (gE HZ.out).1 HGN.out).trans HZ.out)
 have HK := LH ((HG.out.mono (T := fun k => k = g) (fun _ h => h.elim)).trans h2.2 (fun _ h => .inl h))
 replace HS := LH (HS.out.keep h2.2 (fun j hj => (HFS.out j hj).1))
 replace H := LH h2.1
 clear h2 HG c0 c1 c2 c3 c4 c5 c6 c7 c8 c9 c10 c11 c12 c13 c14 c15 c16 c17 c18 c19 c20 cf
 generalize (w.alloc (.cells #[.int .i64 2, .int .u64 session, .int .i64 i, .int .i64 (chunksN d.sz : Nat), .int .u32 (sum : Nat), .slice none 0 0, .slice A2 bs.length c2'] 46)).setCell ⟨g, 20, none⟩ (.bool false) = w2 at H HZ HK HS ⊢
 obtain ⟨c0, c1, c2, c3, c4, c5, c6, c7, c8, c9, c10, c11, c12, c13, c14, c15, c16, c17, c18, c19, c20, cf⟩ := cells21 H.out.cell
 rw [show ({ rc with closed := false } : RC).part = some ⟨b, 0, none⟩ from H.out.part] at c0
 rw [show ({ rc with closed := false } : RC).phase = 1 from hph] at c6
 obtain ⟨z0, z1, z2, z3, z4, z5, z6, zf⟩ := cells7 HZ.out
 go_wp2
 refine region_ord [0, 1, 2, 3, 4, 5, 6, 7, 8, 9, 10, 11, 12, 13, 14, 15, 16, 17, 18, 19, 20, 21, 22] [19, 20] [3, 9, 14, 18] [] rfl (by kernel_rfl) ?_
 iterate 3
  refine ord_pure rfl rfl rfl rfl rfl (fun _ _ _ _ h => h) ?_ ?_ ?_ ?_ ?_
  rotate_left 2
  ·intro w'; go_simp; with_reducible rfl
  ·simp only [Act.put, pB, pC, pD]; rfl
 refine ord_read rfl rfl rfl rfl rfl (fun _ _ _ _ h => h) ?_ ?_ ?_ ?_ ?_
 rotate_left 2
 ·intro w' hg; have q := hg.cell c6 (fun h => h); go_simp; with_reducible rfl
 ·simp only [Act.put, pB, pC, pD]; rfl
 iterate 2
  refine ord_pure rfl rfl rfl rfl rfl (fun _ _ _ _ h => h) ?_ ?_ ?_ ?_ ?_
  rotate_left 2
  ·intro w'; go_simp; with_reducible rfl
  ·simp only [Act.put, pB, pC, pD]; rfl
 iterate 3
  refine ord_pureG rfl rfl rfl rfl rfl (fun _ _ _ _ h => h) ?_ ?_ ?_ ?_ ?_
  rotate_left 2
  ·intro w'; go_simp; with_reducible rfl
  ·simp only [Act.put, pB, pC, pD]; rfl
 refine ord_readG rfl rfl rfl rfl rfl (fun _ _ _ _ h => h) ?_ ?_ ?_ ?_ ?_
 rotate_left 2
 ·intro w' hg; have q := hg.cell c0 (fun h => h); go_simp; with_reducible rfl
 ·simp only [Act.put, pB, pC, pD]; rfl
 refine ord_pureG rfl rfl rfl rfl rfl (fun _ _ _ _ h => h) ?_ ?_ ?_ ?_ ?_
 rotate_left 2
 ·intro w'; go_simp; with_reducible rfl
 ·simp only [Act.put, pB, pC, pD]; rfl
 iterate 2
  refine ord_pure rfl rfl rfl rfl rfl (fun _ _ _ _ h => h) ?_ ?_ ?_ ?_ ?_
  rotate_left 2
  ·intro w'; go_simp; with_reducible rfl
  ·simp only [Act.put, pB, pC, pD]; rfl
 refine ord_pureG rfl rfl rfl rfl rfl (fun _ _ _ _ h => h) ?_ ?_ ?_ ?_ ?_
 rotate_left 2
 ·intro w'; go_simp; with_reducible rfl
 ·simp only [Act.put, pB, pC, pD]; rfl
 refine ord_readG rfl rfl rfl rfl rfl (fun _ _ _ _ h => h) ?_ ?_ ?_ ?_ ?_
 rotate_left 2
 ·intro w' hg; have q := hg.cell z3 (fun h => h); go_simp; with_reducible rfl
 ·simp only [Act.put, pB, pC, pD]; rfl
 iterate 3
  refine ord_pureG rfl rfl rfl rfl rfl (fun _ _ _ _ h => h) ?_ ?_ ?_ ?_ ?_
  rotate_left 2
  ·intro w'; go_simp; with_reducible rfl
  ·simp only [Act.put, pB, pC, pD]; rfl
 refine ord_readG rfl rfl rfl rfl rfl (fun _ _ _ _ h => h) ?_ ?_ ?_ ?_ ?_
 rotate_left 2
 ·intro w' hg; have q := hg.cell c0 (fun h => h); go_simp; with_reducible rfl
 ·simp only [Act.put, pB, pC, pD]; rfl
 refine ord_callG rfl rfl rfl rfl rfl Tryz.func118 rfl rfl [.pointer (some ⟨b, 0, none⟩)] rfl ?_
 refine (pmani_calls (H.out.pat.grow (Keep.refl NoB w2).drew)).mono ?_
 rintro e w3 ⟨A4, c4', rfl, hg4, ho4⟩
 refine ⟨_, rfl, fun _ => hg4, ?_⟩
 simp only [Act.put, pB, pC, pD]
 refine ord_callG rfl rfl rfl rfl rfl Tryz.func64 rfl rfl [.agg #[.int .u64 d.session, .slice A4 d.sz.length c4', .int .u32 (d.sum : Nat)]] rfl ?_
 refine (mchunks_calls d.session d.sum A4 c4' d.sz w3 (SliceR.of_own ho4) H.out.pat.ok.fit).mono ?_
 rintro e w4 ⟨rfl, hg5⟩
 refine ⟨_, rfl, fun _ => hg5, ?_⟩
 simp only [Act.put, pB, pC, pD]
 refine ord_pureG rfl rfl rfl rfl rfl (fun _ _ _ _ h => h) ?_ ?_ ?_ ?_ ?_
 rotate_left 2
 ·intro w'; go_simp; with_reducible rfl
 ·simp only [Act.put, pB, pC, pD]; rfl
 refine ord_pure rfl rfl rfl rfl rfl (fun _ _ _ _ h => h) ?_ ?_ ?_ ?_ ?_
 rotate_left 2
 ·intro w'; go_simp; with_reducible rfl
 ·simp only [Act.put, pB, pC, pD]; rfl
 refine ord_nil ?_
 have hgd := ((Keep.refl NoB w2).drew.grow hg4).grow hg5
 replace H := LH (H.out.grow hgd)
 replace HK := LH (HK.out.grow hgd)
 replace HZ := LH (Grow.heap hgd HZ.out)
 replace HS := LH (HS.out.grow hgd)
 clear hg4 hg5 ho4 hgd c0 c1 c2 c3 c4 c5 c6 c7 c8 c9 c10 c11 c12 c13 c14 c15 c16 c17 c18 c19 c20 cf z0 z1 z2 z3 z4 z5 z6 zf
 obtain ⟨c0, c1, c2, c3, c4, c5, c6, c7, c8, c9, c10, c11, c12, c13, c14, c15, c16, c17, c18, c19, c20, cf⟩ := cells21 H.out.cell
 go_wp2
 have h2 := H.out.put (rc' := { rc with closed := false, resumed := false }) 19 (.bool false) rfl rfl rfl
 replace HZ := LH ((h2.2.block _ (gE HZ.out).1 HGN.out).trans HZ.out)
 replace HK := LH (HK.out.trans h2.2 (fun _ h => .inl h))
 replace HS := LH (HS.out.keep h2.2 (fun j hj => (HFS.out j hj).1))
 replace H := LH h2.1
 clear h2 c0 c1 c2 c3 c4 c5 c6 c7 c8 c9 c10 c11 c12 c13 c14 c15 c16 c17 c18 c19 c20 cf
 generalize w4.setCell ⟨g, 19, none⟩ (.bool false) = w5 at H HZ HK HS ⊢
 obtain ⟨c0, c1, c2, c3, c4, c5, c6, c7, c8, c9, c10, c11, c12, c13, c14, c15, c16, c17, c18, c19, c20, cf⟩ := cells21 H.out.cell
 obtain ⟨z0, z1, z2, z3, z4, z5, z6, zf⟩ := cells7 HZ.out
 rw [show ({ rc with closed := false, resumed := false } : RC).part = some ⟨b, 0, none⟩ from H.out.part] at c0
 refine region_ord [0, 1, 2, 3, 5, 6, 4, 7, 8] [4, 7, 8] [3, 6] [] rfl (by kernel_rfl) ?_
 iterate 3
  refine ord_pure rfl rfl rfl rfl rfl (fun _ _ _ _ h => h) ?_ ?_ ?_ ?_ ?_
  rotate_left 2
  ·intro w'; go_simp; with_reducible rfl
  ·simp only [Act.put, pB, pC, pD]; rfl
 refine ord_read rfl rfl rfl rfl rfl (fun _ _ _ _ h => h) ?_ ?_ ?_ ?_ ?_
 rotate_left 2
 ·intro w' hg; have q := hg.cell c0 (fun h => h); go_simp; with_reducible rfl
 ·simp only [Act.put, pB, pC, pD]; rfl
 refine ord_pure rfl rfl rfl rfl rfl (fun _ _ _ _ h => h) ?_ ?_ ?_ ?_ ?_
 rotate_left 2
 ·intro w'; go_simp; with_reducible rfl
 ·simp only [Act.put, pB, pC, pD]; rfl
 refine ord_read rfl rfl rfl rfl rfl (fun _ _ _ _ h => h) ?_ ?_ ?_ ?_ ?_
 rotate_left 2
 ·intro w' hg; have q := hg.cell z2 (fun h => h); go_simp; with_reducible rfl
 ·simp only [Act.put, pB, pC, pD]; rfl
 refine ord_call rfl rfl rfl rfl rfl Tryz.func117 rfl rfl [.pointer (some ⟨b, 0, none⟩)] rfl ?_
 refine (pknown_calls (H.out.pat.grow (Keep.refl NoB w5).drew)).mono ?_
 rintro e w6 ⟨A6, c6', rfl, hg6, ho6⟩
 refine ⟨_, rfl, fun _ => hg6, ?_⟩
 simp only [Act.put, pB, pC, pD]
 refine ord_call rfl rfl rfl rfl rfl Tryz.func82 rfl rfl [.slice A6 d.known.length c6', .int .i64 i] rfl ?_
 refine (bget_calls A6 c6' d.known H.out.pat.ok.known i (by have := H.out.pat.ok.few; omega) w6 (SliceR.of_own ho6)).mono ?_
 rintro e w7 ⟨rfl, rfl⟩
 refine ⟨_, rfl, fun _ => Keep.refl _ _, ?_⟩
 simp only [Act.put, pB, pC, pD]
 rw [HGB.out]
 refine ord_set rfl rfl rfl rfl ?_ ?_ ?_ ?_ ?_
 rotate_left 2
 ·go_simp; with_reducible rfl
 ·simp only [Act.put, pB, pC, pD]; rfl
 refine ord_nil ?_
 have hgd := (Keep.refl NoB w5).drew.grow hg6
 replace H := LH (H.out.grow hgd)
 replace HK := LH (HK.out.grow hgd)
 replace HZ := LH (Grow.heap hgd HZ.out)
 replace HS := LH (HS.out.grow hgd)
 clear hg6 ho6 hgd c0 c1 c2 c3 c4 c5 c6 c7 c8 c9 c10 c11 c12 c13 c14 c15 c16 c17 c18 c19 c20 cf z0 z1 z2 z3 z4 z5 z6 zf
 obtain ⟨c0, c1, c2, c3, c4, c5, c6, c7, c8, c9, c10, c11, c12, c13, c14, c15, c16, c17, c18, c19, c20, cf⟩ := cells21 H.out.cell
 obtain ⟨z0, z1, z2, z3, z4, z5, z6, zf⟩ := cells7 HZ.out
 rw [show ({ rc with closed := false, resumed := false } : RC).part = some ⟨b, 0, none⟩ from H.out.part] at c0
 go_wp2
 refine region_ord [0, 1, 2, 3, 4, 5, 6, 7, 8, 9] [8] [3, 5, 7] [8] rfl (by kernel_rfl) ?_
 iterate 3
  refine ord_pure rfl rfl rfl rfl rfl (fun _ _ _ _ h => h) ?_ ?_ ?_ ?_ ?_
  rotate_left 2
  ·intro w'; go_simp; with_reducible rfl
  ·simp only [Act.put, pB, pC, pD]; rfl
 refine ord_read rfl rfl rfl rfl rfl (fun _ _ _ _ h => h) ?_ ?_ ?_ ?_ ?_
 rotate_left 2
 ·intro w' hg; have q := hg.cell c0 (fun h => h); go_simp; with_reducible rfl
 ·simp only [Act.put, pB, pC, pD]; rfl
 refine ord_pure rfl rfl rfl rfl rfl (fun _ _ _ _ h => h) ?_ ?_ ?_ ?_ ?_
 rotate_left 2
 ·intro w'; go_simp; with_reducible rfl
 ·simp only [Act.put, pB, pC, pD]; rfl
 refine ord_read rfl rfl rfl rfl rfl (fun _ _ _ _ h => h) ?_ ?_ ?_ ?_ ?_
 rotate_left 2
 ·intro w' hg; have q := hg.cell z2 (fun h => h); go_simp; with_reducible rfl
 ·simp only [Act.put, pB, pC, pD]; rfl
 refine ord_pure rfl rfl rfl rfl rfl (fun _ _ _ _ h => h) ?_ ?_ ?_ ?_ ?_
 rotate_left 2
 ·intro w'; go_simp; with_reducible rfl
 ·simp only [Act.put, pB, pC, pD]; rfl
 refine ord_read rfl rfl rfl rfl rfl (fun _ _ _ _ h => h) ?_ ?_ ?_ ?_ ?_
 rotate_left 2
 ·intro w' hg; have q := hg.cell z6 (fun h => h); go_simp; with_reducible rfl
 ·simp only [Act.put, pB, pC, pD]; rfl
 refine ord_call rfl rfl rfl rfl rfl Tryz.func106 rfl rfl [.pointer (some ⟨b, 0, none⟩), .int .i64 i, .slice A2 bs.length c2'] rfl ?_
 refine (pput_new (H.out.pat.grow (Keep.refl NoB w6).drew) i hi HGB.out A2 c2' bs HBB.out.1 HBB.out.2 FS (HS.out.grow (Keep.refl NoB w6).drew) (fun j hj e => (HFS.out j hj).2 (.inr (.inr (.inl e))))).mono ?_
 rintro e w8 ⟨rfl, p', G', hwb, hP', hk8, hG'⟩
 refine ⟨_, rfl, fun h => absurd (by simp) h, ?_⟩
 simp only [Act.put, pB, pC, pD]
 refine ord_pure rfl rfl rfl rfl rfl (fun _ _ _ _ h => h) ?_ ?_ ?_ ?_ ?_
 rotate_left 2
 ·intro w'; go_simp; with_reducible rfl
 ·simp only [Act.put, pB, pC, pD]; rfl
 refine ord_nil ?_
 have hHn := (H.out.grow (Keep.refl NoB w6).drew).morePart (d' := d.more i bs) hwb hP' hk8 hG'
 have HGP : Hid (∀ j, G' j → G j ∨ w.heap.size ≤ j) := LH (fun j hj => (hG' j hj).imp id (fun h => Nat.le_trans HK.out.size h))
 replace HS := LH ((HS.out.grow (Keep.refl NoB w6).drew).keep hk8 (fun j hj e => (HFS.out j hj).2 (.inr (e.imp id .inl))))
 have hzn := HGN.out
 have HWB := LH (show w.heap.size ≠ b ∧ w.heap.size ≠ p.wb from HBP.out)
 replace HZ := LH ((hk8.block w.heap.size (gE (show w6.drew.heap[w.heap.size]? = _ from HZ.out)).1 (fun e => e.elim HWB.out.1 HWB.out.2)).trans (show w6.drew.heap[w.heap.size]? = _ from HZ.out))
 replace HK := LH ((HK.out.drew.mono (T := RF g rc.st b p k) (fun _ h => .inl h)).trans hk8 (fun j hj => .inl (.inr (hj.imp id .inl))))
 have HWB2 := LH hwb
 replace H := LH hHn
 clear hHn hzn hwb hP' hk8 hG' c0 c1 c2 c3 c4 c5 c6 c7 c8 c9 c10 c11 c12 c13 c14 c15 c16 c17 c18 c19 c20 cf z0 z1 z2 z3 z4 z5 z6 zf
 obtain ⟨c0, c1, c2, c3, c4, c5, c6, c7, c8, c9, c10, c11, c12, c13, c14, c15, c16, c17, c18, c19, c20, cf⟩ := cells21 H.out.cell
 obtain ⟨z0, z1, z2, z3, z4, z5, z6, zf⟩ := cells7 HZ.out
 go_wp2
 refine region_ord [0, 1, 2, 3, 4, 5, 6, 7, 8] [8] [3, 5, 7] [8] rfl (by kernel_rfl) ?_
 iterate 3
  refine ord_pure rfl rfl rfl rfl rfl (fun _ _ _ _ h => h) ?_ ?_ ?_ ?_ ?_
  rotate_left 2
  ·intro w'; go_simp; with_reducible rfl
  ·simp only [Act.put, pB, pC, pD]; rfl
 refine ord_read rfl rfl rfl rfl rfl (fun _ _ _ _ h => h) ?_ ?_ ?_ ?_ ?_
 rotate_left 2
 ·intro w' hg; have q := hg.cell c5 (fun h => h); go_simp; with_reducible rfl
 ·simp only [Act.put, pB, pC, pD]; rfl
 refine ord_pure rfl rfl rfl rfl rfl (fun _ _ _ _ h => h) ?_ ?_ ?_ ?_ ?_
 rotate_left 2
 ·intro w'; go_simp; with_reducible rfl
 ·simp only [Act.put, pB, pC, pD]; rfl
 refine ord_read rfl rfl rfl rfl rfl (fun _ _ _ _ h => h) ?_ ?_ ?_ ?_ ?_
 rotate_left 2
 ·intro w' hg; have q := hg.cell z2 (fun h => h); go_simp; with_reducible rfl
 ·simp only [Act.put, pB, pC, pD]; rfl
 refine ord_pure rfl rfl rfl rfl rfl (fun _ _ _ _ h => h) ?_ ?_ ?_ ?_ ?_
 rotate_left 2
 ·intro w'; go_simp; with_reducible rfl
 ·simp only [Act.put, pB, pC, pD]; rfl
 refine ord_read rfl rfl rfl rfl rfl (fun _ _ _ _ h => h) ?_ ?_ ?_ ?_ ?_
 rotate_left 2
 ·intro w' hg; have q := hg.cell z6 (fun h => h); go_simp; with_reducible rfl
 ·simp only [Act.put, pB, pC, pD]; rfl
 refine ord_call rfl rfl rfl rfl rfl Tryz.func182 rfl rfl [.pointer (some ⟨rc.st, 0, none⟩), .int .i64 i, .slice A2 bs.length c2'] rfl ?_
 refine (kput_calls (s := rc.st) (H.out.kat.grow (Keep.refl NoB w8).drew) hkn hkn2 i (by omega) A2 bs c2' hlen.2 hlen.1 (HS.out.grow (Keep.refl NoB w8).drew).now).mono ?_
 rintro e w9 ⟨rfl, x, A9, c9', hxb, hK9, hk9, hx9, hlo9⟩
 refine ⟨_, rfl, fun h => absurd (by simp) h, ?_⟩
 simp only [Act.put, pB, pC, pD]
 refine ord_nil ?_
 have hdz : w8.drew.heap.size = w8.heap.size := rfl
 have hHn := (H.out.grow (Keep.refl NoB w8).drew).moreStore (k' := (k.put i x).step A9 c9') hK9 hk9 (fun j hj => by
  rcases hj with e | e | e
  ·exact .inl (.inl e)
  ·exact .inl (.inr (.inl e))
  ·exact (hlo9 j e).imp (fun h => .inr (.inr h)) id) (fun j hj => hj.imp id (fun e => by rw [e]; exact hx9))
 have HRF : Hid (∀ j, (RF g rc.st b p' ((k.put i x).step A9 c9') j ∨ G' j ∨ (Gk j ∨ j = x.b)) → (RF g rc.st b p k j ∨ G j ∨ Gk j) ∨ w.heap.size ≤ j) := LH (fun j hj => by
  rcases hj with (e | e | e | e | e | e) | e | e | e
  ·exact .inl (.inl (.inl e))
  ·exact .inl (.inl (.inr (.inl e)))
  ·rw [HWB2.out] at e; exact .inl (.inl (.inr (.inr (.inl e))))
  ·exact .inl (.inl (.inr (.inr (.inr (.inl e)))))
  ·exact .inl (.inl (.inr (.inr (.inr (.inr (.inl e))))))
  ·rcases hlo9 j e with h | h
   ·exact .inl (.inl (.inr (.inr (.inr (.inr (.inr h))))))
   ·exact .inr (by have := HK.out.size; omega)
  ·exact (HGP.out j e).imp (fun h => .inr (.inl h)) id
  ·exact .inl (.inr (.inr e))
  ·exact .inr (by have := HK.out.size; omega))
 replace HK := LH (HK.out.drew.trans hk9 (fun j hj => .inl (.inr (.inr (.inr hj)))))
 have HKN : Hid (((k.put i x).step A9 c9').lo.n = k.lo.n + 1 ∧ ((k.put i x).step A9 c9').n = k.n + 1 ∧ ((k.put i x).step A9 c9').nt = k.nt) := LH ⟨rfl, rfl, rfl⟩
 obtain ⟨k', hk'⟩ : ∃ k', (k.put i x).step A9 c9' = k' := ⟨_, rfl⟩
 rw [hk'] at hHn HRF HKN
 obtain ⟨Gk', hGk'⟩ : ∃ Gk' : Nat → Prop, (fun j => Gk j ∨ j = x.b) = Gk' := ⟨_, rfl⟩
 rw [hGk'] at hHn
 rw [show (∀ j, (RF g rc.st b p' k' j ∨ G' j ∨ (Gk j ∨ j = x.b)) → (RF g rc.st b p k j ∨ G j ∨ Gk j) ∨ w.heap.size ≤ j) = (∀ j, (RF g rc.st b p' k' j ∨ G' j ∨ Gk' j) → (RF g rc.st b p k j ∨ G j ∨ Gk j) ∨ w.heap.size ≤ j) from by rw [← hGk']] at HRF
 replace H := LH hHn
 clear hHn hk' hGk' hxb hK9 hk9 hx9 hlo9 hdz HZ HS c0 c1 c2 c3 c4 c5 c6 c7 c8 c9 c10 c11 c12 c13 c14 c15 c16 c17 c18 c19 c20 cf z0 z1 z2 z3 z4 z5 z6 zf
 go_wp2_with fail
 refine (rcheck_all H.out.cell H.out.part H.out.pat hall).mono ?_
 rintro e w10 ⟨⟨v, rfl⟩, hR, hkg⟩
 rw [HE.out] at hR
 replace HK := LH (HK.out.trans hkg (fun j hj => .inl (.inl hj)))
 have HR := LH hR
 clear hR hkg H
 have c6 : w10.cell? ⟨g, 6, none⟩ = some (.int .i64 3) := World.news_of_block HR.out 6 _ rfl
 have c7 : w10.cell? ⟨g, 7, none⟩ = some (.int .u16 (E : Nat)) := World.news_of_block HR.out 7 _ rfl
 have hcv : (E : Int) ≤ 65535 := by omega
 go_wp2_with fail
 refine (rgram_calls HR.out 5 E).mono ?_
 rintro ee w11 ⟨rfl, hg⟩
 replace HK := LH (HK.out.grow hg)
 replace HR := LH (HR.out.grow hg)
 clear hg c6 c7
 go_wp2
 go_ret
 have hsz := HK.out.size
 exact ⟨_, rfl, heap_alloc_new w11 _, hsz, _, HR.out.grow ((Keep.refl NoB w11).alloc _), rfl, HK.out.grow ((Keep.refl NoB w11).alloc _)⟩
theorem chunk_size {x : RX} (hx : x.Ok) (i : Nat) (hi : i < x.Q) : ((chunkP x.a i).length : Int) = sizeN (szs x.a) i := by
 have hs := hx.small
 rw [chunkP_len _ hx.a]
 unfold sizeN
 rw [← hs.2.2.2.2.2.1]
 omega
theorem parD_more {x : RX} (hx : x.Ok) {kb : List Int} (hk : BitsOk kb x.Q) (i : Nat) (hi : i < x.Q) : (parD x kb).more i (chunkP x.a i) = parD x (setB kb i) := by
 unfold parD Par.more
 simp only
 rw [wordsK_set _ hx.a kb i (by rw [hk.len]; omega)]
theorem ended_all {x : RX} (hx : x.Ok) {kb : List Int} (hk : BitsOk kb x.Q) (hal : x.Q ≤ popB kb) (rc : RC) : rc.ended (parD x kb) = if x.m = sumP x.s x.a then (if checkP x.a = 0 then { rc with phase := 2 } else rc.fail (checkP x.a)) else rc.fail 12 := by
 have hw : wordsK x.a.flatten kb = x.a.flatten := wordsK_all (fun i hi => hk.full.1 hal i (by rw [hx.small.2.2.2.2.2.2]; exact hi))
 unfold RC.ended parD
 simp only
 rw [hw, arenaW_self]
theorem Rv1.again {x : RX} {g st : Nat} {rc rc' : RC} {b : Nat} {p : PP} {kb : List Int} {G : Nat → Prop} {k : KS} {Gk F : Nat → Prop} {w w' : World} (h1 : Rv1 x g st rc b p kb G k Gk F w) (hr : RCell g rc' w') (hk : Keep (fun j => j = g) w w') (e1 : rc'.st = rc.st) (e2 : rc'.quota = rc.quota) (e3 : rc'.part = rc.part) (e4 : rc'.session = rc.session) (e5 : rc'.sum = rc.sum) (e6 : rc'.err = rc.err) : Rv1 x g st rc' b p kb G k Gk F w' := by
 have hgb := h1.at_.gb
 have hkf := h1.at_.kf
 refine ⟨⟨hr, e3.trans h1.at_.part, h1.at_.pat.keep hk (fun e => hgb.1 e.symm) (fun e => hgb.2.1 e.symm) (fun j hj e => hgb.2.2.1 (by rw [← e]; exact hj)), ?_, ?_, ?_, h1.at_.kg⟩, e1.trans h1.st, e2.trans h1.quota, e4.trans h1.s, e5.trans h1.m, e6.trans h1.err, h1.ok, h1.lo, h1.n, h1.f1, h1.f2, h1.f3⟩
 ·rw [e1]; exact h1.at_.kat.keep hk (fun j hj e => hgb.2.2.2.1 (by rw [← e]; exact hj)) (fun j hj e => hgb.2.2.2.2 (by rw [← e]; exact hj))
 ·rw [e1]; exact hgb
 ·rw [e1]; exact hkf
theorem rv_data {x : RX} (hx : x.Ok) {g st : Nat} {F : Nat → Prop} {w : World} (hF : ∀ j, F j → j < w.heap.size) (i : Nat) (hi : i < x.Q) (A2 : Option Addr) (c2 : Nat) {FS : Nat → Prop} (hS : Foot (SliceR 1 (.slice A2 (chunkP x.a i).length c2) (chunkP x.a i).length (u8s (chunkP x.a i))) w FS) (hFS : ∀ j, FS j → ¬ F j) {s : RSt} (h : RvI x g st s F w) :
    Calls Tryz.prog 39 #[.pointer (some ⟨g, 0, none⟩), .agg #[.int .i64 2, .int .u64 x.s, .int .i64 i, .int .i64 x.Q, .int .u32 (x.m : Nat), .slice none 0 0, .slice A2 (chunkP x.a i).length c2]] w fun e w' => ∃ v, e = .returned v ∧ RvStep x g st (datS x s i) (datK x s i) F w v w' := by
 have hI := h
 cases s with
 | idle =>
  obtain ⟨rc, k, Gk, h0, hp⟩ := h
  refine (rtake_sack h0.cell x.s i x.Q x.m none A2 0 0 (chunkP x.a i).length c2 hp).mono ?_
  rintro e w' ⟨b, rfl, hO, hb, hg⟩
  exact ⟨_, rfl, ⟨b, _, _, _, rfl, hO, hb⟩, F, hI.grow hg, hg.mono (fun _ h => h.elim), fun j hj => .inl hj, fun j hj => Nat.lt_of_lt_of_le (hF j hj) hg.size⟩
 | hear hs =>
  obtain ⟨rc, k, Gk, G, h0, hp, hof, hs_, hm_, hH0, hgG, hG0, hh0, hal⟩ := h
  refine rtake_data h0.cell _ _ _ _ _ _ _ _ _ _ (fun v w' => RvStep x g st (datS x (.hear hs) i) (datK x (.hear hs) i) F w v w') (by rw [hp]; decide) (by rw [hp]; decide) hs_.symm hm_.symm (fun w1 hg1 => ?_)
  have h1 := h0.keep hg1 (fun _ _ h => h)
  refine (rdata_none h1.cell hp h1.part x.s i x.Q x.m A2 (chunkP x.a i).length c2).mono ?_
  rintro e w' ⟨rfl, hr, hk⟩
  have hk2 := (hg1.mono (T := fun j => j = g) (fun _ h => h.elim)).trans hk (fun j e => .inl e)
  exact ⟨_, rfl, rfl, F, ⟨_, k, Gk, G, h0.again hk2 hr rfl rfl rfl rfl (fun j hj => hj), hp, hof, hs_, hm_, hH0.keep hk2 (fun j hj e => hgG (by rw [← e]; exact hj)), hgG, hG0, hh0, hal⟩, hk2.mono (fun j e => by rw [e]; exact h0.fg), fun j hj => .inl hj, fun j hj => Nat.lt_of_lt_of_le (hF j hj) hk2.size⟩
 | ready =>
  obtain ⟨rc, b, p, kb, G, k, Gk, h1, hp, hal⟩ := h
  refine rtake_data h1.at_.cell _ _ _ _ _ _ _ _ _ _ (fun v w' => RvStep x g st (datS x .ready i) (datK x .ready i) F w v w') (by rw [hp]; decide) (by rw [hp]; decide) h1.s.symm h1.m.symm (fun w1 hg1 => ?_)
  have h2 := h1.keep hg1 (fun _ _ h => h)
  refine (rdata_done h2.at_.cell hp x.s i x.Q x.m A2 (chunkP x.a i).length c2).mono ?_
  rintro e w' ⟨rfl, hr, hk⟩
  have hk2 := (hg1.mono (T := fun j => j = g) (fun _ h => h.elim)).trans hk (fun j e => .inl e)
  exact ⟨_, rfl, rfl, F, ⟨_, b, p, kb, G, k, Gk, h2.again hr hk rfl rfl rfl rfl rfl rfl, hp, hal⟩, hk2.mono (fun j e => by rw [e]; exact h1.f1 g (.inl rfl)), fun j hj => .inl hj, fun j hj => Nat.lt_of_lt_of_le (hF j hj) hk2.size⟩
 | fail e =>
  obtain ⟨rc, h0, _⟩ := h
  refine (rtake_failed h0 x.s i x.Q x.m none A2 0 0 (chunkP x.a i).length c2 rfl 2).mono ?_
  rintro e w' ⟨rfl, hg⟩
  exact ⟨_, rfl, RvStep.same hI hF hg⟩
 | part kb =>
  obtain ⟨rc, b, p, G, k, Gk, h1, hp, hno⟩ := h
  refine rtake_data h1.at_.cell _ _ _ _ _ _ _ _ _ _ (fun v w' => RvStep x g st (datS x (.part kb) i) (datK x (.part kb) i) F w v w') (by rw [hp]; decide) (by rw [hp]; decide) h1.s.symm h1.m.symm (fun w1 hg1 => ?_)
  have h2 := h1.keep hg1 (fun _ _ h => h)
  have hF1 : ∀ j, F j → j < w1.heap.size := fun j hj => Nat.lt_of_lt_of_le (hF j hj) hg1.size
  have hS1 := hS.grow hg1
  have hw1 := hg1.size
  have hsz := chunk_size hx i hi
  have hokb := chunkP_in x.a i
  have hfew := h1.ok.pop_le
  have hQ := hx.small
  have hbad : ∀ (E : Nat), E ≤ 100 → E ≠ 0 → E ≠ 31 → getB kb i = false → x.Q ≤ popB (setB kb i) → (∀ rc : RC, rc.ended (parD x (setB kb i)) = rc.fail E) → datS x (.part kb) i = .fail E →
      Calls Tryz.prog 110 #[.pointer (some ⟨g, 0, none⟩), .agg #[.int .i64 2, .int .u64 x.s, .int .i64 i, .int .i64 x.Q, .int .u32 (x.m : Nat), .slice none 0 0, .slice A2 (chunkP x.a i).length c2]] w1 fun e w' => ∃ v, e = .returned v ∧ RvStep x g st (datS x (.part kb) i) (datK x (.part kb) i) F w v w' := fun E hE hE0 hE31 hgb hal he hd => by
   refine (rdata_bad (d := parD x kb) h2.at_ hp (by rw [h1.lo]; omega) (by rw [h1.n]; omega) i hi hgb x.s x.m (chunkP x.a i) hokb hsz hal E hE (by rw [parD_more hx h1.ok i hi]; exact he) A2 c2 FS hS1 (fun j hj e => hFS j hj (h1.f1 j (by rw [← h1.st]; exact e)))).mono ?_
   rintro e w' ⟨bb, rfl, hO, hbb, rc', hr, hst, hk⟩
   have hk2 := (hg1.mono (T := F) (fun _ h => h.elim)).trans hk (fun j e => .inl (h1.f1 j (by rw [← h1.st]; exact e)))
   refine ⟨_, rfl, ?_, F, ?_, hk2, fun j hj => .inl hj, fun j hj => Nat.lt_of_lt_of_le (hF j hj) hk2.size⟩
   ·show RvOut (failK (datS x (.part kb) i)) _ _ _
    rw [hd]
    exact ⟨bb, _, _, _, rfl, hO, Nat.le_trans hw1 hbb⟩
   ·rw [hd]
    exact ⟨rc', hr, hst.trans h1.st, h1.f1 g (.inl rfl), hE0, fun e => absurd e hE31⟩
  cases hgb : getB kb i with
  | true =>
   refine (rdata_old (d := parD x kb) h2.at_ hp i hi hgb hno x.s x.m A2 (chunkP x.a i).length c2 hsz).mono ?_
   rintro e w' ⟨rfl, hr, hk⟩
   have hk2 := (hg1.mono (T := fun j => j = g) (fun _ h => h.elim)).trans hk (fun j e => .inl e)
   have hd : datS x (.part kb) i = .part kb := by simp [datS, hgb]
   refine ⟨_, rfl, by show RvOut (failK (datS x (.part kb) i)) _ _ _; rw [hd]; rfl, F, by rw [hd]; exact ⟨_, b, p, G, k, Gk, h2.again hr.cell hk rfl rfl rfl rfl rfl rfl, hp, hno⟩, hk2.mono (fun j e => by rw [e]; exact h1.f1 g (.inl rfl)), fun j hj => .inl hj, fun j hj => Nat.lt_of_lt_of_le (hF j hj) hk2.size⟩
  | false =>
   have hbo := h1.ok.set hi
   have hpop := hbo.pop_le
   have hkl : popB (setB kb i) = popB kb + 1 := by
    rw [hbo.pop, h1.ok.pop]
    have hp1 : ∀ n, i < n → n ≤ x.Q → ((List.range n).filter (getB (setB kb i))).length = ((List.range n).filter (getB kb)).length + 1 := by
     intro n
     induction n with
     | zero => intro h; omega
     | succ n ih =>
      intro hin hnq
      rw [List.range_succ, List.filter_append, List.filter_append, List.length_append, List.length_append]
      by_cases e : i = n
      ·subst e
       have e0 : (List.range i).filter (getB (setB kb i)) = (List.range i).filter (getB kb) := by
        apply List.filter_congr
        intro j hj
        have hji := List.mem_range.1 hj
        rw [getB_set, decide_eq_false (by omega), Bool.false_or]
       have e1 : getB (setB kb i) i = true := by
        rw [getB_set, decide_eq_true ⟨rfl, by rw [h1.ok.len]; omega⟩, Bool.true_or]
       rw [e0]
       simp [e1, hgb]
      ·have e2 : getB (setB kb i) n = getB kb n := by
         rw [getB_set, decide_eq_false (by omega), Bool.false_or]
       have e3 : [n].filter (getB (setB kb i)) = [n].filter (getB kb) := by simp [List.filter_cons, e2]
       rw [ih (by omega) (by omega), e3]
       omega
    exact hp1 x.Q hi (Nat.le_refl _)
   by_cases hlt : popB (setB kb i) < x.Q
   ·refine (rdata_no (d := parD x kb) h2.at_ hp (by rw [h1.lo]; omega) (by rw [h1.n]; omega) i hi hgb x.s x.m (chunkP x.a i) hokb hsz hlt A2 c2 FS hS1 (fun j hj e => hFS j hj (h1.f1 j (by rw [← h1.st]; exact e)))).mono ?_
    rintro e w' ⟨rfl, p', G', k', Gk', hr, hk, hwb, hlo, hn, hnt, hff⟩
    have hk2 := (hg1.mono (T := F) (fun _ h => h.elim)).trans hk (fun j e => .inl (h1.f1 j (by rw [← h1.st]; exact e)))
    have hd : datS x (.part kb) i = .part (setB kb i) := by simp [datS, hgb, hlt]
    have hsm := hr.small
    rw [parD_more hx h1.ok i hi] at hr
    rw [h1.st] at hff
    refine ⟨_, rfl, by show RvOut (failK (datS x (.part kb) i)) _ _ _; rw [hd]; rfl, fun j => RF g st b p' k' j ∨ G' j ∨ Gk' j, by rw [hd]; exact ⟨_, b, p', G', k', Gk', ⟨hr, h1.st, h1.quota, h1.s, h1.m, h1.err, hbo, by rw [hlo, h1.lo, hkl]; omega, by rw [hn, h1.n, hkl], fun j hj => .inl hj, fun j hj => .inr (.inl hj), fun j hj => .inr (.inr hj)⟩, hp, hlt⟩, hk2, fun j hj => ?_, fun j hj => ?_⟩
    ·rcases hff j hj with (e | e | e) | e
     ·exact .inl (h1.f1 j e)
     ·exact .inl (h1.f2 j e)
     ·exact .inl (h1.f3 j e)
     ·exact .inr (Nat.le_trans hw1 e)
    ·rcases hj with e | e | e
     ·exact hsm.1 j (by rw [show ({ rc with closed := false, resumed := false } : RC).st = st from h1.st]; exact e)
     ·exact hsm.2.1 j e
     ·exact hsm.2.2 j e
   ·have hge : x.Q ≤ popB (setB kb i) := by omega
    have hd0 : datS x (.part kb) i = endS x := by simp [datS, hgb, hlt]
    by_cases hm : x.m = sumP x.s x.a
    case neg =>
     exact hbad 12 (by decide) (by decide) (by decide) hgb hge (fun rc => by rw [ended_all hx hbo hge, if_neg hm]; rfl) (by rw [hd0, endS, if_neg hm])
    by_cases hc : checkP x.a = 0
    case neg =>
     have hci := checkP_in x.a
     exact hbad (checkP x.a).toNat (by omega) (by omega) (by omega) hgb hge (fun rc => by rw [ended_all hx hbo hge, if_pos hm, if_neg hc, show (((checkP x.a).toNat : Nat) : Int) = checkP x.a from by omega]) (by rw [hd0, endS, if_pos hm, if_neg hc])
    have hd : datS x (.part kb) i = .ready := by rw [hd0, endS, if_pos hm, if_pos hc]
    refine (rdata_ok (d := parD x kb) h2.at_ hp (by rw [h1.lo]; omega) (by rw [h1.n]; omega) i hi hgb x.s x.m (chunkP x.a i) hokb hsz hge (fun rc => by rw [parD_more hx h1.ok i hi, ended_all hx hbo hge, if_pos hm, if_pos hc]) A2 c2 FS hS1 (fun j hj e => hFS j hj (h1.f1 j (by rw [← h1.st]; exact e)))).mono ?_
    rintro e w' ⟨rfl, p', G', k', Gk', hr, hk, hwb, hlo, hn, hnt, hff⟩
    have hk2 := (hg1.mono (T := F) (fun _ h => h.elim)).trans hk (fun j e => .inl (h1.f1 j (by rw [← h1.st]; exact e)))
    have hsm := hr.small
    rw [parD_more hx h1.ok i hi] at hr
    rw [h1.st] at hff
    refine ⟨_, rfl, by show RvOut (failK (datS x (.part kb) i)) _ _ _; rw [hd]; rfl, fun j => RF g st b p' k' j ∨ G' j ∨ Gk' j, by rw [hd]; exact ⟨_, b, p', setB kb i, G', k', Gk', ⟨hr, h1.st, h1.quota, h1.s, h1.m, h1.err, hbo, by rw [hlo, h1.lo, hkl]; omega, by rw [hn, h1.n, hkl], fun j hj => .inl hj, fun j hj => .inr (.inl hj), fun j hj => .inr (.inr hj)⟩, rfl, hbo.full.1 hge, hc⟩, hk2, fun j hj => ?_, fun j hj => ?_⟩
    ·rcases hff j hj with (e | e | e) | e
     ·exact .inl (h1.f1 j e)
     ·exact .inl (h1.f2 j e)
     ·exact .inl (h1.f3 j e)
     ·exact .inr (Nat.le_trans hw1 e)
    ·rcases hj with e | e | e
     ·exact hsm.1 j (by rw [show ({ rc with closed := false, resumed := false, phase := 2 } : RC).st = st from h1.st]; exact e)
     ·exact hsm.2.1 j e
     ·exact hsm.2.2 j e
end Go.Proofs.YtfkcpaahdlkcdaaGreat
