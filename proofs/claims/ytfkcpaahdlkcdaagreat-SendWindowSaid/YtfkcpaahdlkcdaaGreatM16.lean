import Derived.Test.YtfkcpaahdlkcdaaGreatM15
/-! Joined: SnK, SnL, SnM, SnN. -/
set_option linter.unusedSimpArgs false
set_option linter.unusedVariables false
namespace Go.Proofs.YtfkcpaahdlkcdaaGreat
open Go.RowKit

/-- Behind open. -/
def openD (now : Int) (d : Snd) : Snd :=
  if firstN d.acked d.tries.length < pagesN d.sz then askD now 0 (pagesN d.sz) d
  else if firstN d.acked d.tries.length < d.tries.length then askD now (firstN d.acked d.tries.length) (min (firstN d.acked d.tries.length + d.win.toNat) d.tries.length - firstN d.acked d.tries.length) (askD now 0 (pagesN d.sz) d)
  else if (askD now 0 (pagesN d.sz) d).tm.length = 0 then setD (askD now 0 (pagesN d.sz) d) (pagesN d.sz) now else askD now 0 (pagesN d.sz) d
theorem firstN_le (bs : List Int) (n : Nat) : firstN bs n ≤ n := by unfold firstN; omega
set_option maxRecDepth 100000 in
set_option maxHeartbeats 4000000 in
theorem open_calls {g : Nat} {p : SP} {d : Snd} {Fq G : Nat → Prop} {w : World} (h : SAt g p d Fq G w) (now : Int) :
    Calls Tryz.prog 74 #[.pointer (some ⟨g, 0, none⟩), .int .i64 now] w fun e w' => (∃ v, e = .returned v) ∧ ∃ Fq', SAt g p (openD now d) Fq' G w' ∧ Keep (SF g p.rt Fq) w w' ∧ Grew Fq Fq' w := by
  have hn := h.ok.n
  have htl := h.ok.tlen
  have hal := h.ok.alen
  have hc := h.ok.conf
  obtain ⟨c0, c1, c2, c3, c4, c5, c6, c7, c8, c9, c10, c11, c12, c13, c14, cf⟩ := cells15 h.cell
  have H := Lib.hid h
  clear h
  obtain ⟨pp, hpp⟩ : ∃ pp, pagesN d.sz = pp := ⟨_, rfl⟩
  obtain ⟨n, hn9⟩ : ∃ n, d.tries.length = n := ⟨_, rfl⟩
  rw [hpp] at c4 htl hn
  rw [hn9] at c13 htl hn hal
  have HPP := Lib.hid hpp
  have HN := Lib.hid hn9
  have hwin1 := hc.win1
  have hwin2 := hc.win2
  have hal2 : d.acked.length ≤ 100000 := by omega
  have hpn : pp < n := by omega
  clear hpp hn9 hc hal htl
  go_enter Tryz.func74, Tryz.ntmps74
  go_wp2_with fail
  have ha := ask_calls H.out 0 pp (by rw [HN.out]; omega) now
  rw [Nat.zero_add] at ha
  refine ha.mono ?_
  rintro e w1 ⟨⟨v1, rfl⟩, F1, hS, hK, hG⟩
  have hst := askD_st now 0 d pp
  obtain ⟨d1, hd1⟩ : ∃ d1, askD now 0 pp d = d1 := ⟨_, rfl⟩
  rw [hd1] at hS hst
  have HD1 := Lib.hid hd1
  clear c0 c1 c2 c3 c4 c5 c6 c7 c8 c9 c10 c11 c12 c13 c14 cf ha hd1
  obtain ⟨c0, c1, c2, c3, c4, c5, c6, c7, c8, c9, c10, c11, c12, c13, c14, cf⟩ := cells15 hS.cell
  rw [hst.2.2.1] at c12
  rw [hst.2.2.2.2.2.2.2.1, HN.out] at c13
  rw [hst.2.2.2.2.1, HPP.out] at c4
  rw [hst.2.2.2.2.2.2.2.2.1] at c6
  have HR : Hid (SliceR 1 (.slice p.Aa d.acked.length p.ca) d.acked.length (u8s d.acked) w1.drew) := by
    have := (hS.grow (Keep.refl NoB w1).drew).ro.now.2.2
    rw [hst.2.2.1] at this
    exact this
  have HB : Hid (OkB d.acked) := by
    have := hS.ok.acked
    rw [hst.2.2.1] at this
    exact this
  have hTL : d1.tries.length = n := by rw [hst.2.2.2.2.2.2.2.1, HN.out]
  have HS := Lib.hid (hS.grow (Keep.refl NoB w1).drew)
  have HK := Lib.hid (hK.grow (Keep.refl NoB w1).drew)
  have HG := Lib.hid hG
  have HST := Lib.hid hst
  have HTL := Lib.hid hTL
  clear hS hK hG hst hTL
  go_wp2
  refine region_ord [0, 1, 2, 3, 4, 5, 6, 7, 8, 10, 11, 12, 13, 14, 9, 15, 16] [9, 15, 16] [3, 7, 13] [] rfl (by kernel_rfl) ?_
  iterate 3
    refine ord_pure rfl rfl rfl rfl rfl (fun _ _ _ _ h => h) ?_ ?_ ?_ ?_ ?_
    rotate_left 2
    · intro w'; go_simp; with_reducible rfl
    · simp only [Act.put, List.setIfInBounds_toArray, List.set_cons_zero, List.set_cons_succ]; rfl
  refine ord_read rfl rfl rfl rfl rfl (fun _ _ _ _ h => h) ?_ ?_ ?_ ?_ ?_
  rotate_left 2
  · intro w' hg; have q := hg.cell c12 (fun h => h); go_simp; with_reducible rfl
  · simp only [Act.put, List.setIfInBounds_toArray, List.set_cons_zero, List.set_cons_succ]; rfl
  iterate 3
    refine ord_pure rfl rfl rfl rfl rfl (fun _ _ _ _ h => h) ?_ ?_ ?_ ?_ ?_
    rotate_left 2
    · intro w'; go_simp; with_reducible rfl
    · simp only [Act.put, List.setIfInBounds_toArray, List.set_cons_zero, List.set_cons_succ]; rfl
  refine ord_read rfl rfl rfl rfl rfl (fun _ _ _ _ h => h) ?_ ?_ ?_ ?_ ?_
  rotate_left 2
  · intro w' hg; have q := hg.cell c13 (fun h => h); go_simp; with_reducible rfl
  · simp only [Act.put, List.setIfInBounds_toArray, List.set_cons_zero, List.set_cons_succ]; rfl
  refine ord_pure rfl rfl rfl rfl rfl (fun _ _ _ _ h => h) ?_ ?_ ?_ ?_ ?_
  rotate_left 2
  · intro w'; go_simp; with_reducible rfl
  · simp only [Act.put, List.setIfInBounds_toArray, List.set_cons_zero, List.set_cons_succ]; rfl
  iterate 3
    refine ord_pure rfl rfl rfl rfl rfl (fun _ _ _ _ h => h) ?_ ?_ ?_ ?_ ?_
    rotate_left 2
    · intro w'; go_simp; with_reducible rfl
    · simp only [Act.put, List.setIfInBounds_toArray, List.set_cons_zero, List.set_cons_succ]; rfl
  refine ord_read rfl rfl rfl rfl rfl (fun _ _ _ _ h => h) ?_ ?_ ?_ ?_ ?_
  rotate_left 2
  · intro w' hg; have q := hg.cell c13 (fun h => h); go_simp; with_reducible rfl
  · simp only [Act.put, List.setIfInBounds_toArray, List.set_cons_zero, List.set_cons_succ]; rfl
  refine ord_pure rfl rfl rfl rfl rfl (fun _ _ _ _ h => h) ?_ ?_ ?_ ?_ ?_
  rotate_left 2
  · intro w'; go_simp; with_reducible rfl
  · simp only [Act.put, List.setIfInBounds_toArray, List.set_cons_zero, List.set_cons_succ]; rfl
  refine ord_call rfl rfl rfl rfl rfl Tryz.func147 rfl rfl [.slice p.Aa d.acked.length p.ca, .int .i64 n] rfl ?_
  refine (bfirst_calls p.Aa p.ca d.acked HB.out (by omega) n (by omega) (by omega) w1.drew HR.out).mono ?_
  rintro e w2 ⟨rfl, hg2⟩
  refine ⟨_, rfl, fun _ => hg2, ?_⟩
  simp only [Act.put, List.setIfInBounds_toArray, List.set_cons_zero, List.set_cons_succ]
  iterate 2
    refine ord_set rfl rfl rfl rfl ?_ ?_ ?_ ?_ ?_
    rotate_left 2
    · go_simp; with_reducible rfl
    · simp only [Act.put, List.setIfInBounds_toArray, List.set_cons_zero, List.set_cons_succ]; rfl
  refine ord_nil ?_
  replace HS := Lib.hid (HS.out.grow hg2)
  replace HK := Lib.hid (HK.out.grow hg2)
  have hbl := firstN_le d.acked n
  clear hg2 HR c0 c1 c2 c3 c4 c5 c6 c7 c8 c9 c10 c11 c12 c13 c14 cf
  obtain ⟨c0, c1, c2, c3, c4, c5, c6, c7, c8, c9, c10, c11, c12, c13, c14, cf⟩ := cells15 HS.out.cell
  rw [HST.out.2.2.2.2.1, HPP.out] at c4
  rw [HST.out.2.2.2.2.2.2.2.2.1] at c6
  obtain ⟨base, hbase⟩ : ∃ base, firstN d.acked n = base := ⟨_, rfl⟩
  rw [hbase] at hbl ⊢
  have HBA := Lib.hid hbase
  clear hbase
  by_cases h1 : base < pp
  · have h1' : (base : Int) < pp := by omega
    have hfin : Hid (openD now d = d1) := Lib.hid (by unfold openD; rw [HN.out, HPP.out, HBA.out, if_pos h1, HD1.out])
    go_wp2
    go_end0
    exact ⟨⟨_, rfl⟩, F1, by rw [hfin.out]; exact HS.out, HK.out, HG.out⟩
  by_cases h2 : base < n
  · have h1' : ¬ ((base : Int) < pp) := by omega
    have h2' : (base : Int) < n := by omega
    obtain ⟨m, hm⟩ : ∃ m, min (base + d.win.toNat) n - base = m := ⟨_, rfl⟩
    have hfin : Hid (openD now d = askD now base m d1) := Lib.hid (by unfold openD; rw [HN.out, HPP.out, HBA.out, if_neg h1, if_pos h2, HD1.out, hm])
    have hw : IntKind.i64.wrap ((base : Int) + d.win) = (base : Int) + d.win := IntWalk.i64_in _ (by omega)
    have hmn : base + m ≤ n := by omega
    have ha := ask_calls HS.out base m (by rw [HTL.out]; exact hmn) now
    by_cases hc : (n : Int) < base + d.win
    · rw [show base + m = n from by omega] at ha
      have HA := Lib.hid ha
      clear hm ha
      go_wp2_with fail
      refine HA.out.mono ?_
      rintro e w3 ⟨⟨v3, rfl⟩, F3, hS3, hK3, hG3⟩
      have HF := Lib.hid (show ∃ Fq', SAt g p (openD now d) Fq' G w3 ∧ Keep (SF g p.rt Fq) w w3 ∧ Grew Fq Fq' w from ⟨F3, by rw [hfin.out]; exact hS3, keep_sf HK.out HG.out hK3, HG.out.trans hG3 HK.out.size⟩)
      clear hS3 hK3 hG3
      go_wp2
      go_end0
      exact ⟨⟨_, rfl⟩, HF.out⟩
    · rw [show ((base + m : Nat) : Int) = (base : Int) + d.win from by omega] at ha
      have HA := Lib.hid ha
      clear hm ha
      go_wp2_with fail
      refine HA.out.mono ?_
      rintro e w3 ⟨⟨v3, rfl⟩, F3, hS3, hK3, hG3⟩
      have HF := Lib.hid (show ∃ Fq', SAt g p (openD now d) Fq' G w3 ∧ Keep (SF g p.rt Fq) w w3 ∧ Grew Fq Fq' w from ⟨F3, by rw [hfin.out]; exact hS3, keep_sf HK.out HG.out hK3, HG.out.trans hG3 HK.out.size⟩)
      clear hS3 hK3 hG3
      go_wp2
      go_end0
      exact ⟨⟨_, rfl⟩, HF.out⟩
  · have h1' : ¬ ((base : Int) < pp) := by omega
    have h2' : ¬ ((base : Int) < n) := by omega
    by_cases h3 : d1.tm.length = 0
    · have hfin : Hid (openD now d = setD d1 pp now) := Lib.hid (by unfold openD; rw [HN.out, HPP.out, HBA.out, if_neg h1, if_neg h2, HD1.out, if_pos h3])
      have ht : (((d1.tm.length : Nat) : Int) == 0) = true := by rw [h3]; rfl
      clear h3
      go_wp2_with fail
      refine (tlen_calls HS.out.que).mono ?_
      rintro e w3 ⟨rfl, rfl⟩
      go_wp2
      refine region_ord [0, 1, 2, 3, 4, 5, 6, 7, 8, 9] [9] [3, 7] [9] rfl (by kernel_rfl) ?_
      iterate 3
        refine ord_pure rfl rfl rfl rfl rfl (fun _ _ _ _ h => h) ?_ ?_ ?_ ?_ ?_
        rotate_left 2
        · intro w'; go_simp; with_reducible rfl
        · simp only [Act.put, List.setIfInBounds_toArray, List.set_cons_zero, List.set_cons_succ]; rfl
      refine ord_read rfl rfl rfl rfl rfl (fun _ _ _ _ h => h) ?_ ?_ ?_ ?_ ?_
      rotate_left 2
      · intro w' hg; have q := hg.cell c0 (fun h => h); go_simp; with_reducible rfl
      · simp only [Act.put, List.setIfInBounds_toArray, List.set_cons_zero, List.set_cons_succ]; rfl
      iterate 3
        refine ord_pure rfl rfl rfl rfl rfl (fun _ _ _ _ h => h) ?_ ?_ ?_ ?_ ?_
        rotate_left 2
        · intro w'; go_simp; with_reducible rfl
        · simp only [Act.put, List.setIfInBounds_toArray, List.set_cons_zero, List.set_cons_succ]; rfl
      refine ord_read rfl rfl rfl rfl rfl (fun _ _ _ _ h => h) ?_ ?_ ?_ ?_ ?_
      rotate_left 2
      · intro w' hg; have q := hg.cell c4 (fun h => h); go_simp; with_reducible rfl
      · simp only [Act.put, List.setIfInBounds_toArray, List.set_cons_zero, List.set_cons_succ]; rfl
      refine ord_pure rfl rfl rfl rfl rfl (fun _ _ _ _ h => h) ?_ ?_ ?_ ?_ ?_
      rotate_left 2
      · intro w'; go_simp; with_reducible rfl
      · simp only [Act.put, List.setIfInBounds_toArray, List.set_cons_zero, List.set_cons_succ]; rfl
      refine ord_call rfl rfl rfl rfl rfl Tryz.func80 rfl rfl [.pointer (some ⟨p.q, 0, none⟩), .int .i64 pp, .int .i64 now] rfl ?_
      refine (sset_calls (HS.out.grow (Keep.refl NoB w2).drew) pp (by rw [HTL.out]; exact hpn) now).mono ?_
      rintro e w3 ⟨⟨v3, rfl⟩, F3, hS3, hK3, hG3⟩
      refine ⟨_, rfl, fun h => absurd (by simp) h, ?_⟩
      simp only [Act.put, List.setIfInBounds_toArray, List.set_cons_zero, List.set_cons_succ]
      refine ord_nil ?_
      have HF := Lib.hid (show ∃ Fq', SAt g p (openD now d) Fq' G w3 ∧ Keep (SF g p.rt Fq) w w3 ∧ Grew Fq Fq' w from ⟨F3, by rw [hfin.out]; exact hS3, keep_sf HK.out.drew HG.out hK3, HG.out.trans hG3 HK.out.drew.size⟩)
      clear hS3 hK3 hG3 c0 c1 c2 c3 c4 c5 c6 c7 c8 c9 c10 c11 c12 c13 c14 cf
      go_wp2
      go_end0
      exact ⟨⟨_, rfl⟩, HF.out⟩
    · have hfin : Hid (openD now d = d1) := Lib.hid (by unfold openD; rw [HN.out, HPP.out, HBA.out, if_neg h1, if_neg h2, HD1.out, if_neg h3])
      have ht : (((d1.tm.length : Nat) : Int) == 0) = false := by rw [beq_eq_false_iff_ne]; omega
      clear h3
      go_wp2_with fail
      refine (tlen_calls HS.out.que).mono ?_
      rintro e w3 ⟨rfl, rfl⟩
      go_wp2
      go_end0
      exact ⟨⟨_, rfl⟩, F1, by rw [hfin.out]; exact HS.out, HK.out, HG.out⟩
end Go.Proofs.YtfkcpaahdlkcdaaGreat
set_option linter.unusedSimpArgs false
set_option linter.unusedVariables false
namespace Go.Proofs.YtfkcpaahdlkcdaaGreat
open Go.RowKit

theorem put7_5 {w : World} {g T : Nat} {a0 a1 a2 a3 a4 a5 a6 : Value} (x y z : Value) (h : w.heap[g]? = some (.cells #[a0, a1, a2, a3, a4, a5, a6] T (0, 0))) :
    (((w.setCell ⟨g, 2, none⟩ x).setCell ⟨g, 3, none⟩ y).setCell ⟨g, 5, none⟩ z).heap[g]? = some (.cells #[a0, a1, x, y, a4, z, a6] T (0, 0)) := by
  simp only [World.setCell, Array.getElem?_modify]
  simp [h]
theorem put7_6 {w : World} {g T : Nat} {a0 a1 a2 a3 a4 a5 a6 : Value} (x y z : Value) (h : w.heap[g]? = some (.cells #[a0, a1, a2, a3, a4, a5, a6] T (0, 0))) :
    (((w.setCell ⟨g, 2, none⟩ x).setCell ⟨g, 3, none⟩ y).setCell ⟨g, 6, none⟩ z).heap[g]? = some (.cells #[a0, a1, x, y, a4, a5, z] T (0, 0)) := by
  simp only [World.setCell, Array.getElem?_modify]
  simp [h]
theorem keep_put (B o : Nat) (w : World) (v : Value) : Keep (fun k => k = B) w (w.setCell ⟨B, o, none⟩ v) := (Keep.refl (fun k => k = B) w).setCell (p := ⟨B, o, none⟩) (.inl rfl) v
theorem keep7 (w4 : World) (T : Nat) (v0 v1 v2 v3 v4 v5 v6 : Value) : Keep (fun k => k = T) w4 (((((((w4.setCell ⟨T, 0, none⟩ v0).setCell ⟨T, 1, none⟩ v1).setCell ⟨T, 2, none⟩ v2).setCell ⟨T, 3, none⟩ v3).setCell ⟨T, 4, none⟩ v4).setCell ⟨T, 5, none⟩ v5).setCell ⟨T, 6, none⟩ v6) :=
  (((((((Keep.refl (fun k => k = T) w4).setCell (p := ⟨T, 0, none⟩) (.inl rfl) v0).setCell (p := ⟨T, 1, none⟩) (.inl rfl) v1).setCell (p := ⟨T, 2, none⟩) (.inl rfl) v2).setCell (p := ⟨T, 3, none⟩) (.inl rfl) v3).setCell (p := ⟨T, 4, none⟩) (.inl rfl) v4).setCell (p := ⟨T, 5, none⟩) (.inl rfl) v5).setCell (p := ⟨T, 6, none⟩) (.inl rfl) v6
/-- A cell that a fact needs lies in its footprint. -/
theorem Foot.cell_mem {P : World → Prop} {W : World} {F : Nat → Prop} (h : Foot P W F) {p : Addr} (hp : ∀ W', P W' → ∃ v, W'.cell? p = some v) : F p.block := by
  by_cases hF : F p.block
  · exact hF
  · exfalso
    obtain ⟨v, hv⟩ := hp { W with heap := W.heap.setIfInBounds p.block (.map #[] 0) } (h.2 _ (fun k hk => by
      have : p.block ≠ k := fun e => hF (e ▸ hk)
      simp [Array.getElem?_setIfInBounds, this]))
    unfold World.cell? at hv
    rw [Array.getElem?_setIfInBounds_self] at hv
    split at hv
    · rename_i hq
      split at hq <;> simp at hq
    · simp at hv
set_option maxRecDepth 100000 in
set_option maxHeartbeats 4000000 in
theorem of_page {g : Nat} {p : SP} {d : Snd} {Fq G : Nat → Prop} {w : World} (h : SAt g p d Fq G w) (key : Nat) (hk : key < pagesN d.sz) :
    Calls Tryz.prog 79 #[.pointer (some ⟨g, 0, none⟩), .int .i64 key] w fun e w' => ∃ A5 c5, e = .returned (.agg #[.int .i64 1, .int .u64 d.session, .int .i64 key, .int .i64 (pagesN d.sz : Nat), .int .u32 (d.sum : Nat), .slice A5 (pageP d.sz key).length c5, .slice none 0 0]) ∧ Grow w w' ∧ w'.ownsRow w.heap.size 3 1 (.slice A5 (pageP d.sz key).length c5) (pageP d.sz key).length (ints (pageP d.sz key)) := by
  have hn := h.ok.n
  have htl := h.ok.tlen
  have hfit := Lib.hid h.ok.fit
  have hchl := Lib.hid h.ok.chl
  have hd0 := (Keep.refl NoB w).alloc (.cells #[.int .i64 0, .int .u64 0, .int .i64 0, .int .i64 0, .int .u32 0, .slice none 0 0, .slice none 0 0] 46)
  have HC := Lib.hid (heap_alloc_new w (.cells #[.int .i64 0, .int .u64 0, .int .i64 0, .int .i64 0, .int .u32 0, .slice none 0 0, .slice none 0 0] 46))
  have HG := Lib.hid hd0
  have H := Lib.hid (h.grow hd0)
  have c4 := (cells15 H.out.cell).2.2.2.2.1
  have hw0 : (w.alloc (.cells #[.int .i64 0, .int .u64 0, .int .i64 0, .int .i64 0, .int .u32 0, .slice none 0 0, .slice none 0 0] 46)).heap.size = w.heap.size + 1 := by simp
  clear h hd0
  have hk' : (key : Int) < pagesN d.sz := by omega
  go_enter Tryz.func79, Tryz.ntmps79
  go_wp2_with fail
  refine (gram_calls H.out 1).mono ?_
  rintro e w1 ⟨rfl, hg⟩
  have hga := (Keep.refl NoB w1).alloc (.cells #[.int .i64 1, .int .u64 d.session, .int .i64 0, .int .i64 0, .int .u32 (d.sum : Nat), .slice none 0 0, .slice none 0 0] 46)
  have HB := Lib.hid (heap_alloc_new w1 (.cells #[.int .i64 1, .int .u64 d.session, .int .i64 0, .int .i64 0, .int .u32 (d.sum : Nat), .slice none 0 0, .slice none 0 0] 46))
  have hsz1 := hg.size
  have HGB : Hid (¬ g = w1.heap.size) := Lib.hid (fun e => by have := (H.out.grow hg).gq; omega)
  have HGG : Hid (∀ k, G k → ¬ k = w1.heap.size) := Lib.hid (fun k hk e => by have := (H.out.grow hg).ro.lt hk; omega)
  replace H := Lib.hid ((H.out.grow hg).grow hga)
  replace HC := Lib.hid (Grow.heap hga (Grow.heap hg HC.out))
  replace HG := Lib.hid ((HG.out.grow hg).grow hga)
  rw [hw0] at hsz1
  clear c4 hg hga hw0
  go_wp2
  obtain ⟨B, hBB⟩ : ∃ B, w1.heap.size = B := ⟨_, rfl⟩
  generalize w1.alloc (.cells #[.int .i64 1, .int .u64 d.session, .int .i64 0, .int .i64 0, .int .u32 (d.sum : Nat), .slice none 0 0, .slice none 0 0] 46) = w2 at H HC HG HB ⊢
  rw [hBB] at HB hsz1 HGB HGG ⊢
  clear hBB
  obtain ⟨c0, c1, c2, c3, c4, c5h, c6, c7, c8, c9, c10, c11, c12, c13, c14, cf⟩ := cells15 H.out.cell
  have HSZ := Lib.hid (H.out.grow (Keep.refl NoB w2).drew).ro.now.1
  refine region_ordS (fun k => k = B) [0, 1, 2, 3, 4, 5, 6, 7, 8, 9, 11, 10, 12, 13, 14, 15, 16] [10, 12, 14, 16] [4, 8] [] rfl (by kernel_rfl) ?_
  iterate 4
    refine ord_pure rfl rfl rfl rfl rfl (fun _ _ _ _ h => h) ?_ ?_ ?_ ?_ ?_
    rotate_left 2
    · intro w'; go_simp; with_reducible rfl
    · simp only [Act.put, List.setIfInBounds_toArray, List.set_cons_zero, List.set_cons_succ]; rfl
  refine ord_read rfl rfl rfl rfl rfl (fun _ _ _ _ h => h) ?_ ?_ ?_ ?_ ?_
  rotate_left 2
  · intro w' hg; have q := hg.cell c4 HGB.out; go_simp; with_reducible rfl
  · simp only [Act.put, List.setIfInBounds_toArray, List.set_cons_zero, List.set_cons_succ]; rfl
  iterate 3
    refine ord_pure rfl rfl rfl rfl rfl (fun _ _ _ _ h => h) ?_ ?_ ?_ ?_ ?_
    rotate_left 2
    · intro w'; go_simp; with_reducible rfl
    · simp only [Act.put, List.setIfInBounds_toArray, List.set_cons_zero, List.set_cons_succ]; rfl
  refine ord_read rfl rfl rfl rfl rfl (fun _ _ _ _ h => h) ?_ ?_ ?_ ?_ ?_
  rotate_left 2
  · intro w' hg; have q1 := hg.cell c1 HGB.out; have q2 := hg.cell c2 HGB.out; have q3 := hg.cell c3 HGB.out; go_simp; with_reducible rfl
  · simp only [Act.put, List.setIfInBounds_toArray, List.set_cons_zero, List.set_cons_succ]; rfl
  iterate 2
    refine ord_pure rfl rfl rfl rfl rfl (fun _ _ _ _ h => h) ?_ ?_ ?_ ?_ ?_
    rotate_left 2
    · intro w'; go_simp; with_reducible rfl
    · simp only [Act.put, List.setIfInBounds_toArray, List.set_cons_zero, List.set_cons_succ]; rfl
  refine ord_call rfl rfl rfl rfl rfl Tryz.func150 rfl rfl [.agg #[.int .u64 d.session, .slice p.As d.sz.length p.cs, .int .u32 (d.sum : Nat)], .int .i64 key] rfl ?_
  refine (mpage_calls d.session d.sum p.As p.cs d.sz w2.drew HSZ.out hfit.out key hk).mono ?_
  rintro e w3 ⟨A5, c5, rfl, hg3, hob⟩
  refine ⟨_, rfl, fun _ => hg3.mono (fun _ h => h.elim), ?_⟩
  simp only [Act.put, List.setIfInBounds_toArray, List.set_cons_zero, List.set_cons_succ]
  have hgd := (Keep.refl NoB w2).drew.grow hg3
  replace HG := Lib.hid (HG.out.grow hgd)
  replace HC := Lib.hid (Grow.heap hgd HC.out)
  have hBl := (Array.getElem?_eq_some_iff.1 HB.out).1
  replace HB := Lib.hid (Grow.heap hgd HB.out)
  have hcl := (Array.getElem?_eq_some_iff.1 HC.out).1
  have HNB : Hid (∀ k, (Value.slice A5 (pageP d.sz key).length c5).ownBlock = some k → ¬ k = B) := Lib.hid (fun k hk e => by have := (hob.lt k hk).1; have h7 : w2.drew.heap.size = w2.heap.size := rfl; omega)
  have HNS : Hid (∀ k, (Value.slice A5 (pageP d.sz key).length c5).ownBlock = some k → ¬ k = w.heap.size) := Lib.hid (fun k hk e => by have := (hob.lt k hk).1; have h7 : w2.drew.heap.size = w2.heap.size := rfl; omega)
  have HR := Lib.hid (own_le hob (show w.heap.size ≤ w2.drew.heap.size from by have h7 : w2.drew.heap.size = w2.heap.size := rfl; omega))
  clear hob hg3 hgd
  obtain ⟨z0, z1, z2, z3, z4, z5, z6, zf⟩ := cells7 HB.out
  refine ord_put rfl rfl rfl rfl ?_ ?_ ?_ ?_
  rotate_left
  · go_simp; with_reducible rfl
  · exact fun _ => keep_put _ _ _ _
  refine ord_pure rfl rfl rfl rfl rfl (fun _ _ _ _ h => h) ?_ ?_ ?_ ?_ ?_
  rotate_left 2
  · intro w'; go_simp; with_reducible rfl
  · simp only [Act.put, List.setIfInBounds_toArray, List.set_cons_zero, List.set_cons_succ]; rfl
  refine ord_put rfl rfl rfl rfl ?_ ?_ ?_ ?_
  rotate_left
  · go_simp; with_reducible rfl
  · exact fun _ => keep_put _ _ _ _
  refine ord_pure rfl rfl rfl rfl rfl (fun _ _ _ _ h => h) ?_ ?_ ?_ ?_ ?_
  rotate_left 2
  · intro w'; go_simp; with_reducible rfl
  · simp only [Act.put, List.setIfInBounds_toArray, List.set_cons_zero, List.set_cons_succ]; rfl
  refine ord_put rfl rfl rfl rfl ?_ ?_ ?_ ?_
  rotate_left
  · go_simp; with_reducible rfl
  · exact fun _ => keep_put _ _ _ _
  refine ord_nil ?_
  have HK := Lib.hid ((((Keep.refl (fun k => k = B) w3).setCell (p := ⟨B, 2, none⟩) (.inl rfl) (.int .i64 key)).setCell (p := ⟨B, 3, none⟩) (.inl rfl) (.int .i64 (pagesN d.sz : Nat))).setCell (p := ⟨B, 5, none⟩) (.inl rfl) (.slice A5 (pageP d.sz key).length c5))
  have hB7 := put7_5 (.int .i64 key) (.int .i64 (pagesN d.sz : Nat)) (.slice A5 (pageP d.sz key).length c5) HB.out
  replace HG := Lib.hid (HG.out.trans (HK.out.mono (fun k e => (e : k = B))) (fun i e => .inr (by rw [e]; omega)) : Keep NoB w _)
  replace HC := Lib.hid ((HK.out.block w.heap.size (Array.getElem?_eq_some_iff.1 HC.out).1 (by omega)).trans HC.out)
  replace HR := Lib.hid (own_keep HR.out HK.out HNB.out)
  clear HK c0 c1 c2 c3 c4 c5h c6 c7 c8 c9 c10 c11 c12 c13 c14 cf z0 z1 z2 z3 z4 z5 z6 zf HB
  generalize (((w3.setCell ⟨B, 2, none⟩ (.int .i64 key)).setCell ⟨B, 3, none⟩ (.int .i64 (pagesN d.sz : Nat))).setCell ⟨B, 5, none⟩ (.slice A5 (pageP d.sz key).length c5)) = w4 at HG HC HR hB7 ⊢
  obtain ⟨y0, y1, y2, y3, y4, y5, y6, yf⟩ := cells7 hB7
  obtain ⟨z0, z1, z2, z3, z4, z5, z6, zf⟩ := cells7 HC.out
  have HS := Lib.hid (stored7 (.int .i64 1) (.int .u64 d.session) (.int .i64 key) (.int .i64 (pagesN d.sz : Nat)) (.int .u32 (d.sum : Nat)) (.slice A5 (pageP d.sz key).length c5) (.slice none 0 0) HG.out (Nat.le_refl _) HC.out)
  have HRR := Lib.hid (own_keep HR.out (keep7 w4 w.heap.size (.int .i64 1) (.int .u64 d.session) (.int .i64 key) (.int .i64 (pagesN d.sz : Nat)) (.int .u32 (d.sum : Nat)) (.slice A5 (pageP d.sz key).length c5) (.slice none 0 0)) HNS.out)
  go_wp2
  obtain ⟨s0, s1, s2, s3, s4, s5, s6, sf⟩ := cells7 HS.out.1
  refine bodyPost_ret (v := .agg #[.int .i64 1, .int .u64 d.session, .int .i64 key, .int .i64 (pagesN d.sz : Nat), .int .u32 (d.sum : Nat), .slice A5 (pageP d.sz key).length c5, .slice none 0 0]) ?_ rfl ⟨A5, c5, rfl, HS.out.2, HRR.out⟩
  rw [results_cell1 rfl]; go_simp

set_option maxRecDepth 100000 in
set_option maxHeartbeats 4000000 in
theorem of_chunk {g : Nat} {p : SP} {d : Snd} {Fq G : Nat → Prop} {w : World} (h : SAt g p d Fq G w) (key : Nat) (i : Nat) (hk : key = pagesN d.sz + i) (hi : i < d.ch.length) :
    Calls Tryz.prog 79 #[.pointer (some ⟨g, 0, none⟩), .int .i64 key] w fun e w' => ∃ A5 c5x, e = .returned (.agg #[.int .i64 2, .int .u64 d.session, .int .i64 (i : Nat), .int .i64 d.ch.length, .int .u32 (d.sum : Nat), .slice none 0 0, .slice A5 (d.ch[i]).length c5x]) ∧ Grow w w' ∧ w'.ownsRow w.heap.size 5 1 (.slice A5 (d.ch[i]).length c5x) (d.ch[i]).length (u8s (d.ch[i])) := by
  have hn := h.ok.n
  have htl := h.ok.tlen
  have hfit := Lib.hid h.ok.fit
  have hchl := Lib.hid h.ok.chl
  have hd0 := (Keep.refl NoB w).alloc (.cells #[.int .i64 0, .int .u64 0, .int .i64 0, .int .i64 0, .int .u32 0, .slice none 0 0, .slice none 0 0] 46)
  have HC := Lib.hid (heap_alloc_new w (.cells #[.int .i64 0, .int .u64 0, .int .i64 0, .int .i64 0, .int .u32 0, .slice none 0 0, .slice none 0 0] 46))
  have HG := Lib.hid hd0
  have H := Lib.hid (h.grow hd0)
  have c4 := (cells15 H.out.cell).2.2.2.2.1
  have hw0 : (w.alloc (.cells #[.int .i64 0, .int .u64 0, .int .i64 0, .int .i64 0, .int .u32 0, .slice none 0 0, .slice none 0 0] 46)).heap.size = w.heap.size + 1 := by simp
  clear h hd0
  obtain ⟨pp, hpp⟩ : ∃ pp, pagesN d.sz = pp := ⟨_, rfl⟩
  have HPP := Lib.hid hpp
  have hk' : ¬ ((key : Int) < pp) := by omega
  have hwp : IntKind.i64.wrap ((key : Int) - pp) = (i : Nat) := by rw [IntWalk.i64_in _ (by omega)]; omega
  have hil : (i : Int) < d.ch.length := by omega
  rw [hpp] at c4
  clear hpp hk
  go_enter Tryz.func79, Tryz.ntmps79
  go_wp2_with fail
  refine (gram_calls H.out 2).mono ?_
  rintro e w1 ⟨rfl, hg⟩
  have hga := (Keep.refl NoB w1).alloc (.cells #[.int .i64 2, .int .u64 d.session, .int .i64 0, .int .i64 0, .int .u32 (d.sum : Nat), .slice none 0 0, .slice none 0 0] 46)
  have HB := Lib.hid (heap_alloc_new w1 (.cells #[.int .i64 2, .int .u64 d.session, .int .i64 0, .int .i64 0, .int .u32 (d.sum : Nat), .slice none 0 0, .slice none 0 0] 46))
  have hsz1 := hg.size
  have HGB : Hid (¬ g = w1.heap.size) := Lib.hid (fun e => by have := (H.out.grow hg).gq; omega)
  have HGG : Hid (∀ k, G k → ¬ k = w1.heap.size) := Lib.hid (fun k hk e => by have := (H.out.grow hg).ro.lt hk; omega)
  replace H := Lib.hid ((H.out.grow hg).grow hga)
  replace HC := Lib.hid (Grow.heap hga (Grow.heap hg HC.out))
  replace HG := Lib.hid ((HG.out.grow hg).grow hga)
  rw [hw0] at hsz1
  clear c4 hg hga hw0
  go_wp2
  obtain ⟨B, hBB⟩ : ∃ B, w1.heap.size = B := ⟨_, rfl⟩
  generalize w1.alloc (.cells #[.int .i64 2, .int .u64 d.session, .int .i64 0, .int .i64 0, .int .u32 (d.sum : Nat), .slice none 0 0, .slice none 0 0] 46) = w2 at H HC HG HB ⊢
  rw [hBB] at HB hsz1 HGB HGG ⊢
  clear hBB
  obtain ⟨c0, c1, c2, c3, c4, c5, c6, c7, c8, c9, c10, c11, c12, c13, c14, cf⟩ := cells15 H.out.cell
  rw [HPP.out] at c4
  have hmem : ∀ ad : Addr, p.Ac = some ad → G (ad.add i).block := fun ad had => by
    refine Foot.cell_mem (p := ad.add i) H.out.ro (fun W' hW' => ?_)
    obtain ⟨ad2, A2, c2, e2, h2, _⟩ := RowsR.at_ hW'.2.1 i hi
    rw [had] at e2
    injection e2 with e2
    subst e2
    exact ⟨_, h2⟩
  obtain ⟨ad, A', c', hAc, hcell, hrow⟩ := RowsR.at_ (H.out.grow (Keep.refl NoB w2).drew).ro.now.2.1 i hi
  have HAD : Hid (¬ (ad.add i).block = B) := Lib.hid (HGG.out _ (hmem ad hAc))
  rw [hAc] at c5
  clear hmem
  have hlen := (hchl.out _ (List.getElem_mem hi)).1
  have hi0 : (0 : Int) ≤ (i : Nat) := by omega
  have HROW := Lib.hid hrow
  have hil2 : ((i : Nat) : Int).toNat = i := Int.toNat_natCast i
  clear hrow hAc
  refine region_ordS (fun k => k = B) [0, 1, 2, 3, 4, 5, 6, 7, 8, 9, 10, 11, 12, 13, 14, 15, 16, 17, 18, 19, 20, 21, 22, 24, 23, 25, 26, 27, 28, 29] [23, 25, 27, 29] [4, 9, 14, 19, 22] [] rfl (by kernel_rfl) ?_
  iterate 4
    refine ord_pure rfl rfl rfl rfl rfl (fun _ _ _ _ h => h) ?_ ?_ ?_ ?_ ?_
    rotate_left 2
    · intro w'; go_simp; with_reducible rfl
    · simp only [Act.put, List.setIfInBounds_toArray, List.set_cons_zero, List.set_cons_succ]; rfl
  refine ord_read rfl rfl rfl rfl rfl (fun _ _ _ _ h => h) ?_ ?_ ?_ ?_ ?_
  rotate_left 2
  · intro w' hg; have q := hg.cell c4 HGB.out; go_simp; with_reducible rfl
  · simp only [Act.put, List.setIfInBounds_toArray, List.set_cons_zero, List.set_cons_succ]; rfl
  iterate 4
    refine ord_pure rfl rfl rfl rfl rfl (fun _ _ _ _ h => h) ?_ ?_ ?_ ?_ ?_
    rotate_left 2
    · intro w'; go_simp; with_reducible rfl
    · simp only [Act.put, List.setIfInBounds_toArray, List.set_cons_zero, List.set_cons_succ]; rfl
  refine ord_read rfl rfl rfl rfl rfl (fun _ _ _ _ h => h) ?_ ?_ ?_ ?_ ?_
  rotate_left 2
  · intro w' hg; have q := hg.cell c5 HGB.out; go_simp; with_reducible rfl
  · simp only [Act.put, List.setIfInBounds_toArray, List.set_cons_zero, List.set_cons_succ]; rfl
  iterate 4
    refine ord_pure rfl rfl rfl rfl rfl (fun _ _ _ _ h => h) ?_ ?_ ?_ ?_ ?_
    rotate_left 2
    · intro w'; go_simp; with_reducible rfl
    · simp only [Act.put, List.setIfInBounds_toArray, List.set_cons_zero, List.set_cons_succ]; rfl
  refine ord_read rfl rfl rfl rfl rfl (fun _ _ _ _ h => h) ?_ ?_ ?_ ?_ ?_
  rotate_left 2
  · intro w' hg; have q := hg.cell c5 HGB.out; go_simp; with_reducible rfl
  · simp only [Act.put, List.setIfInBounds_toArray, List.set_cons_zero, List.set_cons_succ]; rfl
  iterate 4
    refine ord_pure rfl rfl rfl rfl rfl (fun _ _ _ _ h => h) ?_ ?_ ?_ ?_ ?_
    rotate_left 2
    · intro w'; go_simp; with_reducible rfl
    · simp only [Act.put, List.setIfInBounds_toArray, List.set_cons_zero, List.set_cons_succ]; rfl
  refine ord_read rfl rfl rfl rfl rfl (fun _ _ _ _ h => h) ?_ ?_ ?_ ?_ ?_
  rotate_left 2
  · intro w' hg; have q := hg.cell c4 HGB.out; go_simp; with_reducible rfl
  · simp only [Act.put, List.setIfInBounds_toArray, List.set_cons_zero, List.set_cons_succ]; rfl
  iterate 2
    refine ord_pure rfl rfl rfl rfl rfl (fun _ _ _ _ h => h) ?_ ?_ ?_ ?_ ?_
    rotate_left 2
    · intro w'; go_simp; with_reducible rfl
    · simp only [Act.put, List.setIfInBounds_toArray, List.set_cons_zero, List.set_cons_succ]; rfl
  refine ord_read rfl rfl rfl rfl rfl (fun _ _ _ _ h => h) ?_ ?_ ?_ ?_ ?_
  rotate_left 2
  · intro w' hg; have q := hg.cell hcell HAD.out; go_simp; with_reducible rfl
  · simp only [Act.put, List.setIfInBounds_toArray, List.set_cons_zero, List.set_cons_succ]; rfl
  refine ord_pure rfl rfl rfl rfl rfl (fun _ _ _ _ h => h) ?_ ?_ ?_ ?_ ?_
  rotate_left 2
  · intro w'; go_simp; with_reducible rfl
  · simp only [Act.put, List.setIfInBounds_toArray, List.set_cons_zero, List.set_cons_succ]; rfl
  refine ord_act rfl rfl (fun K hK => ?_)
  refine step_app _ rfl _ _ 23 23 rfl w2.heap.size 5 (.int .u8 0) 1 1 u_bytes info_u8 rfl (.slice none 0 0) 0 [] rfl (.slice A' (d.ch[i]).length c') (d.ch[i]).length (u8s d.ch[i]) rfl ?_ (by exact World.ownsRow_nil _ _ _ _) (HROW.out.src u_bytes (u8s_one _)) (by simp only [maxLen]; omega) (by omega) (Nat.le_refl _)
  intro v5 w3 hap
  have hob := hap.own
  simp only [Nat.zero_add, List.nil_append] at hob
  have hg3 : Grow w2.drew w3 := (Keep.refl NoB w2.drew).grown hap.grew (by simp [Value.ownBlock])
  obtain ⟨A5, c5x, rfl, _⟩ := own_slice hob
  refine hK _ _ ⟨fun _ => hg3.mono (fun _ h => h.elim), ?_⟩
  clear hK K hap
  simp only [Act.put, List.setIfInBounds_toArray, List.set_cons_zero, List.set_cons_succ]
  have hgd := (Keep.refl NoB w2).drew.grow hg3
  replace HG := Lib.hid (HG.out.grow hgd)
  replace HC := Lib.hid (Grow.heap hgd HC.out)
  have hBl := (Array.getElem?_eq_some_iff.1 HB.out).1
  replace HB := Lib.hid (Grow.heap hgd HB.out)
  have hcl := (Array.getElem?_eq_some_iff.1 HC.out).1
  have HNB : Hid (∀ k, (Value.slice A5 (d.ch[i]).length c5x).ownBlock = some k → ¬ k = B) := Lib.hid (fun k hk e => by have := (hob.lt k hk).1; omega)
  have HNS : Hid (∀ k, (Value.slice A5 (d.ch[i]).length c5x).ownBlock = some k → ¬ k = w.heap.size) := Lib.hid (fun k hk e => by have := (hob.lt k hk).1; omega)
  have HR := Lib.hid (own_le hob (show w.heap.size ≤ w2.heap.size from by omega))
  clear hob hg3 hgd
  obtain ⟨z0, z1, z2, z3, z4, z5, z6, zf⟩ := cells7 HB.out
  refine ord_put rfl rfl rfl rfl ?_ ?_ ?_ ?_
  rotate_left
  · go_simp; with_reducible rfl
  · exact fun _ => keep_put _ _ _ _
  refine ord_pure rfl rfl rfl rfl rfl (fun _ _ _ _ h => h) ?_ ?_ ?_ ?_ ?_
  rotate_left 2
  · intro w'; go_simp; with_reducible rfl
  · simp only [Act.put, List.setIfInBounds_toArray, List.set_cons_zero, List.set_cons_succ]; rfl
  refine ord_put rfl rfl rfl rfl ?_ ?_ ?_ ?_
  rotate_left
  · go_simp; with_reducible rfl
  · exact fun _ => keep_put _ _ _ _
  refine ord_pure rfl rfl rfl rfl rfl (fun _ _ _ _ h => h) ?_ ?_ ?_ ?_ ?_
  rotate_left 2
  · intro w'; go_simp; with_reducible rfl
  · simp only [Act.put, List.setIfInBounds_toArray, List.set_cons_zero, List.set_cons_succ]; rfl
  refine ord_put rfl rfl rfl rfl ?_ ?_ ?_ ?_
  rotate_left
  · go_simp; with_reducible rfl
  · exact fun _ => keep_put _ _ _ _
  refine ord_nil ?_
  have HK := Lib.hid ((((Keep.refl (fun k => k = B) w3).setCell (p := ⟨B, 2, none⟩) (.inl rfl) (.int .i64 (i : Nat))).setCell (p := ⟨B, 3, none⟩) (.inl rfl) (.int .i64 d.ch.length)).setCell (p := ⟨B, 6, none⟩) (.inl rfl) (.slice A5 (d.ch[i]).length c5x))
  have hB7 := put7_6 (.int .i64 (i : Nat)) (.int .i64 d.ch.length) (.slice A5 (d.ch[i]).length c5x) HB.out
  replace HG := Lib.hid (HG.out.trans (HK.out.mono (fun k e => (e : k = B))) (fun i e => .inr (by rw [e]; omega)) : Keep NoB w _)
  replace HC := Lib.hid ((HK.out.block w.heap.size (Array.getElem?_eq_some_iff.1 HC.out).1 (by omega)).trans HC.out)
  replace HR := Lib.hid (own_keep HR.out HK.out HNB.out)
  clear HK c0 c1 c2 c3 c4 c5 c6 c7 c8 c9 c10 c11 c12 c13 c14 cf z0 z1 z2 z3 z4 z5 z6 zf HB
  generalize (((w3.setCell ⟨B, 2, none⟩ (.int .i64 (i : Nat))).setCell ⟨B, 3, none⟩ (.int .i64 d.ch.length)).setCell ⟨B, 6, none⟩ (.slice A5 (d.ch[i]).length c5x)) = w4 at HG HC HR hB7 ⊢
  obtain ⟨y0, y1, y2, y3, y4, y5, y6, yf⟩ := cells7 hB7
  obtain ⟨z0, z1, z2, z3, z4, z5, z6, zf⟩ := cells7 HC.out
  have HS := Lib.hid (stored7 (.int .i64 2) (.int .u64 d.session) (.int .i64 (i : Nat)) (.int .i64 d.ch.length) (.int .u32 (d.sum : Nat)) (.slice none 0 0) (.slice A5 (d.ch[i]).length c5x) HG.out (Nat.le_refl _) HC.out)
  have HRR := Lib.hid (own_keep HR.out (keep7 w4 w.heap.size (.int .i64 2) (.int .u64 d.session) (.int .i64 (i : Nat)) (.int .i64 d.ch.length) (.int .u32 (d.sum : Nat)) (.slice none 0 0) (.slice A5 (d.ch[i]).length c5x)) HNS.out)
  go_wp2
  obtain ⟨s0, s1, s2, s3, s4, s5, s6, sf⟩ := cells7 HS.out.1
  refine bodyPost_ret (v := .agg #[.int .i64 2, .int .u64 d.session, .int .i64 (i : Nat), .int .i64 d.ch.length, .int .u32 (d.sum : Nat), .slice none 0 0, .slice A5 (d.ch[i]).length c5x]) ?_ rfl ⟨A5, c5x, rfl, HS.out.2, HRR.out⟩
  rw [results_cell1 rfl]; go_simp

end Go.Proofs.YtfkcpaahdlkcdaaGreat
set_option linter.unusedSimpArgs false
set_option linter.unusedVariables false
namespace Go.Proofs.YtfkcpaahdlkcdaaGreat
open Go.RowKit

theorem info_apigram : (Tryz.prog.info? 46).map (fun i => (i.zero, i.size, i.bytes)) = some (some (.agg #[.int .i64 0, .int .u64 0, .int .i64 0, .int .i64 0, .int .u32 0, .slice none 0 0, .slice none 0 0]), 7, 88) := by kernel_rfl
theorem u_apigrams : Tryz.prog.underlying 43 = some (.slice 46) := by kernel_rfl
/-- A datagram, as numbers. -/
structure Gm where
  kind : Int
  session : Int
  index : Int
  of : Int
  sum : Nat
  sizes : List Int
  body : List Int
/-- Its cells; v1, v2: where its rows lie. -/
def Gm.cs (x : Gm) (v1 v2 : Value) : List Value := [.int .i64 x.kind, .int .u64 x.session, .int .i64 x.index, .int .i64 x.of, .int .u32 (x.sum : Nat), v1, v2]
abbrev GRow := Gm × Value × Value
def gcells (rows : List GRow) : List Value := rows.flatMap (fun r => r.1.cs r.2.1 r.2.2)
def GmR (r : GRow) (w : World) : Prop := SliceR 1 r.2.1 r.1.sizes.length (ints r.1.sizes) w ∧ SliceR 1 r.2.2 r.1.body.length (u8s r.1.body) w
/-- A row of datagrams that one owns; Gr: the blocks of their rows. -/
structure GOut (base : Nat) (rows : List GRow) (v : Value) (Gr : Nat → Prop) (w : World) : Prop where
  own : w.ownsRow base 46 7 v rows.length (gcells rows)
  ro : Foot (fun w => ∀ r, r ∈ rows → GmR r w) w Gr
  ge : ∀ k, Gr k → base ≤ k
  dis : ∀ k, v.ownBlock = some k → ¬ Gr k
theorem GOut.nil (base : Nat) (w : World) : GOut base [] (.slice none 0 0) NoB w :=
  ⟨World.ownsRow_nil _ _ _ _, ⟨fun _ h => h.elim, fun _ _ r hr => by cases hr⟩, fun _ h => h.elim, fun _ _ h => h⟩
theorem GOut.keep {base : Nat} {rows : List GRow} {v : Value} {Gr S : Nat → Prop} {w w' : World} (h : GOut base rows v Gr w) (hk : Keep S w w') (h1 : ∀ k, v.ownBlock = some k → ¬ S k) (h2 : ∀ k, Gr k → ¬ S k) : GOut base rows v Gr w' :=
  ⟨own_keep h.own hk h1, h.ro.keep hk h2, h.ge, h.dis⟩
theorem GOut.grow {base : Nat} {rows : List GRow} {v : Value} {Gr : Nat → Prop} {w w' : World} (h : GOut base rows v Gr w) (hk : Grow w w') : GOut base rows v Gr w' := h.keep hk (fun _ _ h => h) (fun _ _ h => h)
theorem GOut.lt {base : Nat} {rows : List GRow} {v : Value} {Gr : Nat → Prop} {w : World} (h : GOut base rows v Gr w) : ∀ k, (v.ownBlock = some k ∨ Gr k) → k < w.heap.size := fun k hk => by
  rcases hk with hk | hk
  · exact (h.own.lt k hk).2
  · exact h.ro.lt hk
/-- One more. -/
theorem GOut.push {base O : Nat} {rows : List GRow} {v v' : Value} {Gr Fx : Nat → Prop} {w w' : World} {x : GRow} (h : GOut base rows v Gr w) (hx : Foot (GmR x) w Fx) (hxb : ∀ k, Fx k → base ≤ k) (hO : ¬ Gr O) (hOx : ¬ Fx O) (hvx : ∀ k, v.ownBlock = some k → ¬ Fx k)
    (hk : Keep (fun k => k = O ∨ v.ownBlock = some k) w w') (hown : w'.ownsRow base 46 7 v' (rows.length + 1) (gcells rows ++ x.1.cs x.2.1 x.2.2)) (hat : ∀ k, v'.ownBlock = some k → v.ownBlock = some k ∨ w.heap.size ≤ k) :
    GOut base (rows ++ [x]) v' (fun k => Gr k ∨ Fx k) w' := by
  have hd : ∀ k, (Gr k ∨ Fx k) → ¬ (k = O ∨ v.ownBlock = some k) := fun k hk h2 => by
    rcases hk with hk | hk <;> rcases h2 with h2 | h2
    · exact hO (h2 ▸ hk)
    · exact h.dis k h2 hk
    · exact hOx (h2 ▸ hk)
    · exact hvx k h2 hk
  refine ⟨?_, ?_, fun k hk => hk.elim (h.ge k) (hxb k), fun k hk h2 => ?_⟩
  · rw [List.length_append]
    have : gcells (rows ++ [x]) = gcells rows ++ x.1.cs x.2.1 x.2.2 := by simp [gcells]
    rw [this]
    exact hown
  · exact ((h.ro.and hx).imp (fun W hW r hr => by
      rcases List.mem_append.1 hr with hr | hr
      · exact hW.1 r hr
      · rw [List.mem_singleton.1 hr]; exact hW.2)).keep hk hd
  · rcases hat k hk with e | e
    · rcases h2 with h2 | h2
      · exact h.dis k e h2
      · exact hvx k e h2
    · rcases h2 with h2 | h2
      · have := h.ro.lt h2; omega
      · have := hx.lt h2; omega

set_option maxRecDepth 100000 in
set_option maxHeartbeats 2000000 in
theorem put_gram {O base n : Nat} {v : Value} {cells : List Value} {w : World} (hO : w.heap[O]? = some (.cells #[v] 43 (0, 0))) (hv : w.ownsRow base 46 7 v n cells) (hne : v.ownBlock ≠ some O) (hn : n ≤ 1000000) (hb : base ≤ w.heap.size) (x : Gm) (A1 A2 : Option Addr) (n1 k1 n2 k2 : Nat) :
    Calls Tryz.prog 75 #[.agg #[.int .i64 x.kind, .int .u64 x.session, .int .i64 x.index, .int .i64 x.of, .int .u32 (x.sum : Nat), (.slice A1 n1 k1), (.slice A2 n2 k2)], .pointer (some ⟨O, 0, none⟩)] w fun e w' => (∃ v, e = .returned v) ∧
      ∃ v', w'.heap[O]? = some (.cells #[v'] 43 (0, 0)) ∧ w'.ownsRow base 46 7 v' (n + 1) (cells ++ x.cs (.slice A1 n1 k1) (.slice A2 n2 k2)) ∧ Keep (fun k => k = O ∨ v.ownBlock = some k) w w' ∧ (∀ k, v'.ownBlock = some k → v.ownBlock = some k ∨ w.heap.size ≤ k) ∧ v'.ownBlock ≠ some O := by
  have hOl := (Array.getElem?_eq_some_iff.1 hO).1
  have hg1 := (Keep.refl NoB w).alloc (.cells #[.int .i64 x.kind, .int .u64 x.session, .int .i64 x.index, .int .i64 x.of, .int .u32 (x.sum : Nat), (.slice A1 n1 k1), (.slice A2 n2 k2)] 46)
  have HO := Lib.hid (Grow.heap hg1 hO)
  have HC := Lib.hid (heap_alloc_new w (.cells #[.int .i64 x.kind, .int .u64 x.session, .int .i64 x.index, .int .i64 x.of, .int .u32 (x.sum : Nat), (.slice A1 n1 k1), (.slice A2 n2 k2)] 46))
  have HV := Lib.hid (own_keep hv hg1 (fun _ _ h => h))
  have HNE := Lib.hid hne
  have HG := Lib.hid hg1
  have H12 : Hid (∀ u ∈ x.cs (.slice A1 n1 k1) (.slice A2 n2 k2), u.oneCell' = true) := Lib.hid (by simp [Gm.cs, Value.oneCell'])
  have hsz : (w.alloc (.cells #[.int .i64 x.kind, .int .u64 x.session, .int .i64 x.index, .int .i64 x.of, .int .u32 (x.sum : Nat), (.slice A1 n1 k1), (.slice A2 n2 k2)] 46)).heap.size = w.heap.size + 1 := by simp
  clear hg1 hO hv hne
  go_enter Tryz.func75, Tryz.ntmps75
  have ho := cell0 HO.out
  have hof := frozen0 0 HO.out
  obtain ⟨z0, z1, z2, z3, z4, z5, z6, zf⟩ := cells7 HC.out
  go_wp2_with (at_builtin; refine wpList_app _ rfl _ _ 43 43 rfl base 46 (.agg #[.int .i64 0, .int .u64 0, .int .i64 0, .int .i64 0, .int .u32 0, .slice none 0 0, .slice none 0 0]) 7 88 u_apigrams info_apigram rfl v n cells rfl (.slice (some ⟨w.heap.size + 1, 0, none⟩) 1 1) 1 (x.cs (.slice A1 n1 k1) (.slice A2 n2 k2)) rfl ?_ ?c0 ?c1 ?c2 ?c3 ?c4; intro v' w2 hap; refine Hid.out ?_)
  case c0 => exact own_keep HV.out ((Keep.refl NoB _).alloc _) (fun _ _ h => h)
  case c1 => exact Src.ofSlice _ u_apigrams ⟨w.heap.size + 1, 0, none⟩ 1 1 _ rfl (World.news_of_block (cs := #[.int .i64 x.kind, .int .u64 x.session, .int .i64 x.index, .int .i64 x.of, .int .u32 (x.sum : Nat), (.slice A1 n1 k1), (.slice A2 n2 k2)]) (t := 46) (fr := (0, 0)) (by rw [← hsz]; exact heap_alloc_new _ _)) H12.out
  case c2 => simp only [maxLen]; omega
  case c3 => omega
  case c4 => simp; omega
  refine Lib.hid ?_
  obtain ⟨A', c', rfl, _⟩ := own_slice hap.own
  have hk2 : Keep (fun k => v.ownBlock = some k) w w2 := ((HG.out.alloc _).mono (fun _ h => h.elim)).grown hap.grew (fun k hk => .inl hk)
  have hO2 : w2.heap[O]? = some (.cells #[v] 43 (0, 0)) := (((Keep.refl (fun k => v.ownBlock = some k) (w.alloc (.cells #[.int .i64 x.kind, .int .u64 x.session, .int .i64 x.index, .int .i64 x.of, .int .u32 (x.sum : Nat), (.slice A1 n1 k1), (.slice A2 n2 k2)] 46))).alloc _).grown hap.grew (fun k hk => .inl hk)).block O (by omega) HNE.out |>.trans HO.out
  have hat : ∀ k, (Value.slice A' (n + 1) c').ownBlock = some k → v.ownBlock = some k ∨ w.heap.size ≤ k := fun k hk => by
    rcases of_append hap k hk with e | e
    · exact .inl e
    · right; rw [e]; simp; omega
  have hno : (Value.slice A' (n + 1) c').ownBlock ≠ some O := fun e => by
    rcases hat O e with h | h
    · exact HNE.out h
    · omega
  have hown := own_keep hap.own ((Keep.refl (fun k => k = O) w2).setCell (p := ⟨O, 0, none⟩) (.inl rfl) (.slice A' (n + 1) c')) (fun k hk e => hno (e ▸ hk))
  have HR : Hid ((w2.setCell ⟨O, 0, none⟩ (.slice A' (n + 1) c')).heap[O]? = some (.cells #[.slice A' (n + 1) c'] 43 (0, 0)) ∧ (w2.setCell ⟨O, 0, none⟩ (.slice A' (n + 1) c')).ownsRow base 46 7 (.slice A' (n + 1) c') (n + 1) (cells ++ x.cs (.slice A1 n1 k1) (.slice A2 n2 k2)) ∧ Keep (fun k => k = O ∨ v.ownBlock = some k) w (w2.setCell ⟨O, 0, none⟩ (.slice A' (n + 1) c')) ∧ (∀ k, (Value.slice A' (n + 1) c').ownBlock = some k → v.ownBlock = some k ∨ w.heap.size ≤ k) ∧ (Value.slice A' (n + 1) c').ownBlock ≠ some O) :=
    Lib.hid ⟨heap_setCell_same (.slice A' (n + 1) c') hO2, hown, (hk2.mono (fun k hk => .inr hk)).setCell (p := ⟨O, 0, none⟩) (.inl (.inl rfl)) (.slice A' (n + 1) c'), hat, hno⟩
  have hof2 := frozen0 0 hO2
  have ho2 := cell0 hO2
  clear hk2 hO2 hat hno hown hap
  go_wp2
  go_end0
  exact ⟨⟨_, rfl⟩, _, HR.out⟩
end Go.Proofs.YtfkcpaahdlkcdaaGreat
set_option linter.unusedSimpArgs false
set_option linter.unusedVariables false
namespace Go.Proofs.YtfkcpaahdlkcdaaGreat
open Go.RowKit

/-- What a key is sent as. -/
def ofG (d : Snd) (key : Nat) : Gm := if key < pagesN d.sz then ⟨1, d.session, key, pagesN d.sz, d.sum, pageP d.sz key, []⟩ else ⟨2, d.session, (key - pagesN d.sz : Nat), d.ch.length, d.sum, [], d.ch.getD (key - pagesN d.sz) []⟩
def gmOf (d : Snd) (kind : Int) : Gm := ⟨kind, d.session, 0, 0, d.sum, [], []⟩
theorem of_any {g : Nat} {p : SP} {d : Snd} {Fq G : Nat → Prop} {w : World} (h : SAt g p d Fq G w) (key : Nat) (hk : key < d.tries.length) :
    Calls Tryz.prog 79 #[.pointer (some ⟨g, 0, none⟩), .int .i64 key] w fun e w' => ∃ A1 n1 k1 A2 n2 k2 Fx, e = .returned (.agg #[.int .i64 (ofG d key).kind, .int .u64 (ofG d key).session, .int .i64 (ofG d key).index, .int .i64 (ofG d key).of, .int .u32 ((ofG d key).sum : Nat), .slice A1 n1 k1, .slice A2 n2 k2]) ∧ Grow w w' ∧ Foot (GmR (ofG d key, .slice A1 n1 k1, .slice A2 n2 k2)) w' Fx ∧ ∀ k, Fx k → w.heap.size ≤ k := by
  by_cases hp : key < pagesN d.sz
  · refine (of_page h key hp).mono ?_
    rintro e w' ⟨A, c, rfl, hg, ho⟩
    refine ⟨A, (pageP d.sz key).length, c, none, 0, 0, _, by simp only [ofG, if_pos hp], hg, (Foot.of_own ho).imp (fun W hW => ?_), fun k hk => (ho.lt k hk).1⟩
    unfold ofG GmR
    rw [if_pos hp]
    exact ⟨hW, sliceR_none 1 W⟩
  · have htl := h.ok.tlen
    have hi : key - pagesN d.sz < d.ch.length := by omega
    refine (of_chunk h key (key - pagesN d.sz) (by omega) hi).mono ?_
    rintro e w' ⟨A, c, rfl, hg, ho⟩
    have hgd : d.ch.getD (key - pagesN d.sz) [] = d.ch[key - pagesN d.sz] := by simp [hi]
    refine ⟨none, 0, 0, A, (d.ch[key - pagesN d.sz]).length, c, _, by simp only [ofG, if_neg hp], hg, (Foot.of_own ho).imp (fun W hW => ?_), fun k hk => (ho.lt k hk).1⟩
    unfold ofG GmR
    rw [if_neg hp]
    dsimp only
    rw [hgd]
    exact ⟨sliceR_none 1 W, hW⟩

/-- A key is sent. -/
def stepD (now : Int) (key : Nat) (d : Snd) : Snd := { setD d key (now + pauseN d.back (d.tries.getD key 0)) with tries := d.tries.set key (d.tries.getD key 0 + 1) }
def tickL (now : Int) : List KT → Snd → List Gm → Snd × List Gm
  | [], d, out => (d, out)
  | x :: r, d, out => if d.retry ≤ d.tries.getD x.1.toNat 0 then (endD d 3 33, out ++ [gmOf d 8]) else tickL now r (stepD now x.1.toNat d) (out ++ [ofG d x.1.toNat])
theorem OkS.inc {d : Snd} (h : OkS d) (key : Nat) (x : Int) (h0 : 0 ≤ x) (h1 : x ≤ d.retry) : OkS { d with tries := d.tries.set key x } := by
  refine ⟨h.s0, h.s1, h.sum, h.fit, h.ch, h.chl, h.conf, h.phase, h.err, h.acked, ?_, ?_, ?_, ?_⟩
  · show d.acked.length = ((d.tries.set key x).length + 7) / 8
    rw [List.length_set]; exact h.alen
  · show (d.tries.set key x).length = _
    rw [List.length_set]; exact h.tlen
  · intro y hy
    rcases List.mem_or_eq_of_mem_set hy with hy | rfl
    · exact h.tr y hy
    · exact ⟨h0, h1⟩
  · intro y hy
    have := h.tm y hy
    show 0 ≤ y.1 ∧ y.1 < ((d.tries.set key x).length : Nat)
    rw [List.length_set]; exact this
theorem SF_new {g rt : Nat} {F F' X : Nat → Prop} {w : World} (h : Grew F F' w) (hX : ∀ k, X k → ¬ SF g rt F k ∧ k < w.heap.size) : ∀ k, X k → ¬ SF g rt F' k := fun k hk hS => by
  obtain ⟨h1, h2⟩ := hX k hk
  rcases hS with e | e | e
  · exact h1 (.inl e)
  · exact h1 (.inr (.inl e))
  · rcases h k e with e | e
    · exact h1 (.inr (.inr e))
    · omega
/-- How it stands in Tick's loop. -/
structure TKI (g rt O : Nat) (Fq G : Nat → Prop) (w : World) (p : SP) (d : Snd) (Fk : Nat → Prop) (rows : List GRow) (v : Value) (Gr : Nat → Prop) (vd : Value) (ds : List KT) (FD : Nat → Prop) (wr : World) : Prop where
  sat : SAt g p d Fk G wr
  hrt : p.rt = rt
  keep : Keep (SF g rt Fq) w wr
  grew : Grew Fq Fk w
  cell : wr.heap[O]? = some (.cells #[v] 43 (0, 0))
  out : GOut w.heap.size rows v Gr wr
  due : Foot (SliceR 1 vd ds.length (keysV ds)) wr FD
  xd : ∀ k, (k = O ∨ v.ownBlock = some k ∨ Gr k ∨ FD k) → ¬ SF g rt Fk k
  xo : v.ownBlock ≠ some O ∧ ¬ Gr O ∧ ¬ FD O
  xv : ∀ k, v.ownBlock = some k → ¬ FD k
  xg : ∀ k, G k → k < w.heap.size
  ob : w.heap.size ≤ O
namespace TKI
variable {g rt O : Nat} {Fq G : Nat → Prop} {w : World} {p : SP} {d : Snd} {Fk : Nat → Prop} {rows : List GRow} {v : Value} {Gr : Nat → Prop} {vd : Value} {ds : List KT} {FD : Nat → Prop} {wr : World}
theorem xlt (h : TKI g rt O Fq G w p d Fk rows v Gr vd ds FD wr) : ∀ k, (k = O ∨ v.ownBlock = some k ∨ Gr k ∨ FD k) → k < wr.heap.size := fun k hk => by
  rcases hk with e | e | e | e
  · rw [e]; exact (Array.getElem?_eq_some_iff.1 h.cell).1
  · exact h.out.lt k (.inl e)
  · exact h.out.lt k (.inr e)
  · exact h.due.lt e
/-- The sender has done something. -/
theorem sender (h : TKI g rt O Fq G w p d Fk rows v Gr vd ds FD wr) {p' : SP} {d' : Snd} {F' : Nat → Prop} {w' : World} (hS : SAt g p' d' F' G w') (hp : p'.rt = rt) (hK : Keep (SF g rt Fk) wr w') (hG : Grew Fk F' wr) : TKI g rt O Fq G w p' d' F' rows v Gr vd ds FD w' :=
  ⟨hS, hp, keep_sf h.keep h.grew hK, h.grew.trans hG h.keep.size, (hK.block O (h.xlt O (.inl rfl)) (h.xd O (.inl rfl))).trans h.cell, h.out.keep hK (fun k hk => h.xd k (.inr (.inl hk))) (fun k hk => h.xd k (.inr (.inr (.inl hk)))), h.due.keep hK (fun k hk => h.xd k (.inr (.inr (.inr hk)))),
    SF_new hG (fun k hk => ⟨h.xd k hk, h.xlt k hk⟩), h.xo, h.xv, h.xg, h.ob⟩
theorem grow (h : TKI g rt O Fq G w p d Fk rows v Gr vd ds FD wr) {w' : World} (hK : Grow wr w') : TKI g rt O Fq G w p d Fk rows v Gr vd ds FD w' :=
  h.sender (h.sat.grow hK) h.hrt (hK.mono (fun _ h => h.elim)) (Grew.refl _ _)
/-- A datagram was put. -/
theorem push (h : TKI g rt O Fq G w p d Fk rows v Gr vd ds FD wr) {x : GRow} {Fx : Nat → Prop} {v' : Value} {w' : World} (hx : Foot (GmR x) wr Fx) (hxb : ∀ k, Fx k → w.heap.size ≤ k) (hxs : ∀ k, Fx k → ¬ SF g rt Fk k) (hOx : ¬ Fx O) (hvx : ∀ k, v.ownBlock = some k → ¬ Fx k)
    (hc : w'.heap[O]? = some (.cells #[v'] 43 (0, 0))) (hown : w'.ownsRow w.heap.size 46 7 v' (rows.length + 1) (gcells rows ++ x.1.cs x.2.1 x.2.2)) (hk : Keep (fun k => k = O ∨ v.ownBlock = some k) wr w') (hat : ∀ k, v'.ownBlock = some k → v.ownBlock = some k ∨ wr.heap.size ≤ k) (hno : v'.ownBlock ≠ some O) :
    TKI g rt O Fq G w p d Fk (rows ++ [x]) v' (fun k => Gr k ∨ Fx k) vd ds FD w' := by
  have hge : ∀ k, (k = O ∨ v.ownBlock = some k) → w.heap.size ≤ k := fun k hk => by
    rcases hk with e | e
    · rw [e]; exact h.ob
    · exact (h.out.own.lt k e).1
  have hSF : ∀ k, SF g p.rt Fk k → ¬ (k = O ∨ v.ownBlock = some k) := fun k hk h2 => by
    rw [h.hrt] at hk
    rcases h2 with e | e
    · exact h.xd k (.inl e) hk
    · exact h.xd k (.inr (.inl e)) hk
  refine ⟨h.sat.keep hk hSF (fun k hk h2 => by have := h.xg k hk; have := hge k h2; omega), h.hrt, h.keep.trans hk (fun i hi => .inr (hge i hi)), h.grew, hc,
    h.out.push hx hxb h.xo.2.1 hOx hvx hk hown hat, h.due.keep hk (fun k hk h2 => ?_), fun k hk h2 => ?_, ⟨hno, fun h2 => h2.elim h.xo.2.1 hOx, h.xo.2.2⟩, fun k hk h2 => ?_, h.xg, h.ob⟩
  · rcases h2 with e | e
    · exact h.xo.2.2 (e ▸ hk)
    · exact h.xv k e hk
  · rcases hk with e | e | e | e
    · exact h.xd k (.inl e) h2
    · rcases hat k e with e | e
      · exact h.xd k (.inr (.inl e)) h2
      · have := (h.sat.small k (by rw [h.hrt]; exact h2)); omega
    · rcases e with e | e
      · exact h.xd k (.inr (.inr (.inl e))) h2
      · exact hxs k e h2
    · exact h.xd k (.inr (.inr (.inr e))) h2
  · rcases hat k hk with e | e
    · exact h.xv k e h2
    · have := h.due.lt h2; omega
end TKI
end Go.Proofs.YtfkcpaahdlkcdaaGreat
