import Derived.Test.YtimpnbkincgbmaaTmA
set_option linter.unusedSimpArgs false
set_option linter.unusedVariables false
namespace Go.Proofs.Ytimpnbkincgbmaa
open Go.RowKit

def swp (a : Nat → It) (i j k : Nat) : It := if k = i then a j else if k = j then a i else a k
theorem ptrs_set2 {n i j : Nat} {a : Nat → It} (hi : i < n) (hj : j < n) (hij : i ≠ j) : ((ptrs n a).set i (.pointer (some ⟨(a j).b, 0, none⟩))).set j (.pointer (some ⟨(a i).b, 0, none⟩)) = ptrs n (swp a i j) := by
  apply List.ext_getElem?
  intro k
  rw [List.getElem?_set, List.getElem?_set]
  by_cases hk : k < n
  · rw [ptrs_get (a := swp a i j) hk]
    by_cases h1 : j = k
    · subst h1
      simp [ptrs_length, hj, swp, Ne.symm hij]
    · by_cases h2 : i = k
      · subst h2
        simp [ptrs_length, hi, swp, h1]
      · simp [h1, h2, ptrs_get hk, swp, Ne.symm h1, Ne.symm h2]
  · have e : (ptrs n (swp a i j))[k]? = none := List.getElem?_eq_none (by rw [ptrs_length]; omega)
    have e2 : (ptrs n a)[k]? = none := List.getElem?_eq_none (by rw [ptrs_length]; omega)
    rw [if_neg (by omega), if_neg (by omega), e, e2]
theorem heap_setCell3 {w : World} {g T : Nat} {x y z : Value} (u : Value) (h : w.heap[g]? = some (.cells #[x, y, z] T (0, 0))) : (w.setCell ⟨g, 2, none⟩ u).heap[g]? = some (.cells #[x, y, u] T (0, 0)) := by
  simp only [World.setCell, Array.getElem?_modify]
  simp [h]
theorem setCell_other {w : World} {g : Nat} {p : Addr} (u : Value) (h : g ≠ p.block) : (w.setCell p u).heap[g]? = w.heap[g]? := RowKit.Below.heap_setCell _ _ _ _ h

/-- What Swap leaves. -/
theorem Arr.swapped {q n : Nat} {a : Nat → It} {r c : Nat} {mv : Value} {F : Nat → Prop} {w : World} (h : Arr q n a (.slice (some ⟨r, 0, none⟩) n c) mv F w) {i j : Nat} (hi : i < n) (hj : j < n) (hij : i ≠ j) :
    Arr q n (swp a i j) (.slice (some ⟨r, 0, none⟩) n c) mv F ((((w.setCell ⟨r, i, none⟩ (.pointer (some ⟨(a j).b, 0, none⟩))).setCell ⟨r, j, none⟩ (.pointer (some ⟨(a i).b, 0, none⟩))).setCell ⟨(a j).b, 2, none⟩ (.int .i64 i)).setCell ⟨(a i).b, 2, none⟩ (.int .i64 j)) ∧
    Keep F w ((((w.setCell ⟨r, i, none⟩ (.pointer (some ⟨(a j).b, 0, none⟩))).setCell ⟨r, j, none⟩ (.pointer (some ⟨(a i).b, 0, none⟩))).setCell ⟨(a j).b, 2, none⟩ (.int .i64 i)).setCell ⟨(a i).b, 2, none⟩ (.int .i64 j)) := by
  have hr := h.frow r rfl
  have hfi := h.fit i hi
  have hfj := h.fit j hj
  have hri : r ≠ (a i).b := fun e => hfi.2.2 (by rw [← e]; rfl)
  have hrj : r ≠ (a j).b := fun e => hfj.2.2 (by rw [← e]; rfl)
  have hne : (a i).b ≠ (a j).b := fun e => hij (h.inj i j hi hj e)
  have o1 := (h.row.stored i (.pointer (some ⟨(a j).b, 0, none⟩))).1
  have o2 := (o1.stored j (.pointer (some ⟨(a i).b, 0, none⟩))).1
  rw [ptrs_set2 hi hj hij] at o2
  have k1 : Keep F w ((w.setCell ⟨r, i, none⟩ (.pointer (some ⟨(a j).b, 0, none⟩))).setCell ⟨r, j, none⟩ (.pointer (some ⟨(a i).b, 0, none⟩))) := ((Keep.refl F w).setCell (p := ⟨r, i, none⟩) (.inl hr.1) _).setCell (p := ⟨r, j, none⟩) (.inl hr.1) _
  have ho : ∀ g, g ≠ r → ((w.setCell ⟨r, i, none⟩ (.pointer (some ⟨(a j).b, 0, none⟩))).setCell ⟨r, j, none⟩ (.pointer (some ⟨(a i).b, 0, none⟩))).heap[g]? = w.heap[g]? := fun g hg => (setCell_other (p := ⟨r, j, none⟩) _ hg).trans (setCell_other (p := ⟨r, i, none⟩) _ hg)
  generalize (w.setCell ⟨r, i, none⟩ (.pointer (some ⟨(a j).b, 0, none⟩))).setCell ⟨r, j, none⟩ (.pointer (some ⟨(a i).b, 0, none⟩)) = w1 at *
  have k2 : Keep F w ((w1.setCell ⟨(a j).b, 2, none⟩ (.int .i64 i)).setCell ⟨(a i).b, 2, none⟩ (.int .i64 j)) := (k1.setCell (p := ⟨(a j).b, 2, none⟩) (.inl hfj.1) _).setCell (p := ⟨(a i).b, 2, none⟩) (.inl hfi.1) _
  have kk : Keep (fun k => k = (a j).b ∨ k = (a i).b) w1 ((w1.setCell ⟨(a j).b, 2, none⟩ (.int .i64 i)).setCell ⟨(a i).b, 2, none⟩ (.int .i64 j)) := ((Keep.refl _ w1).setCell (p := ⟨(a j).b, 2, none⟩) (.inl (.inl rfl)) _).setCell (p := ⟨(a i).b, 2, none⟩) (.inl (.inr rfl)) _
  have o3 := own_keep o2 kk (fun k hk => by
    have : r = k := by simpa [Value.ownBlock] using hk
    subst this
    exact fun h => h.elim hrj hri)
  have hit : ∀ k, k < n → ((w1.setCell ⟨(a j).b, 2, none⟩ (.int .i64 i)).setCell ⟨(a i).b, 2, none⟩ (.int .i64 j)).heap[(swp a i j k).b]? = some (.cells #[.int .i64 (swp a i j k).k, .int .i64 (swp a i j k).t, .int .i64 k] 96 (0, 0)) := by
    intro k hk
    by_cases h1 : k = i
    · subst h1
      rw [show swp a k j k = a j from by simp [swp]]
      rw [setCell_other (p := ⟨(a k).b, 2, none⟩) _ hne.symm]
      exact heap_setCell3 _ ((ho _ hrj.symm).trans (h.item j hj))
    · by_cases h2 : k = j
      · subst h2
        rw [show swp a i k k = a i from by simp [swp, h1]]
        refine heap_setCell3 (z := .int .i64 i) _ ?_
        rw [setCell_other (p := ⟨(a k).b, 2, none⟩) _ hne]
        exact (ho _ hri.symm).trans (h.item i hi)
      · rw [show swp a i j k = a k from by simp [swp, h1, h2]]
        have e1 : (a k).b ≠ (a i).b := fun e => h1 (h.inj k i hk hi e)
        have e2 : (a k).b ≠ (a j).b := fun e => h2 (h.inj k j hk hj e)
        rw [setCell_other (p := ⟨(a i).b, 2, none⟩) _ e1, setCell_other (p := ⟨(a j).b, 2, none⟩) _ e2]
        exact (ho _ (fun e => (h.fit k hk).2.2 (by rw [e]; rfl))).trans (h.item k hk)
  have hsw : ∀ k, k < n → ∃ m, m < n ∧ swp a i j k = a m ∧ (m = if k = i then j else if k = j then i else k) := by
    intro k hk
    unfold swp
    split
    · exact ⟨j, hj, rfl, rfl⟩
    · split
      · exact ⟨i, hi, rfl, rfl⟩
      · exact ⟨k, hk, rfl, rfl⟩
  refine ⟨⟨?_, o3, hit, ?_, h.few, h.fq, h.frow, ?_, fun k hk => Nat.lt_of_lt_of_le (h.lt k hk) k2.size⟩, k2⟩
  · rw [setCell_other (p := ⟨(a i).b, 2, none⟩) _ (Ne.symm hfi.2.1), setCell_other (p := ⟨(a j).b, 2, none⟩) _ (Ne.symm hfj.2.1)]
    exact (ho _ (Ne.symm hr.2)).trans h.cell
  · intro x y hx hy e
    obtain ⟨m1, hm1, e1, f1⟩ := hsw x hx
    obtain ⟨m2, hm2, e2, f2⟩ := hsw y hy
    rw [e1, e2] at e
    have := h.inj m1 m2 hm1 hm2 e
    rw [f1, f2] at this
    split at this <;> split at this <;> (try split at this) <;> (try split at this) <;> omega
  · intro x hx
    obtain ⟨m1, hm1, e1, f1⟩ := hsw x hx
    rw [e1]
    exact h.fit m1 hm1

/-- Half way through Swap. -/
theorem Arr.mid {q n : Nat} {a : Nat → It} {r c : Nat} {mv : Value} {F : Nat → Prop} {w w1 : World} (h : Arr q n a (.slice (some ⟨r, 0, none⟩) n c) mv F w) {i j : Nat} (hi : i < n) (hj : j < n) (hij : i ≠ j)
    (hw : (w.setCell ⟨r, i, none⟩ (.pointer (some ⟨(a j).b, 0, none⟩))).setCell ⟨r, j, none⟩ (.pointer (some ⟨(a i).b, 0, none⟩)) = w1) :
    w1.cell? ⟨r, i, none⟩ = some (.pointer (some ⟨(a j).b, 0, none⟩)) ∧ w1.cell? ⟨r, j, none⟩ = some (.pointer (some ⟨(a i).b, 0, none⟩)) ∧ w1.cell? ⟨(a i).b, 2, none⟩ = some (.int .i64 i) ∧ w1.cell? ⟨(a j).b, 2, none⟩ = some (.int .i64 j) ∧
      w1.frozen? ⟨(a i).b, 2, none⟩ = false ∧ w1.frozen? ⟨(a j).b, 2, none⟩ = false ∧ (a i).b ≠ (a j).b := by
  have hfi := h.fit i hi
  have hfj := h.fit j hj
  have hri : r ≠ (a i).b := fun e => hfi.2.2 (by rw [← e]; rfl)
  have hrj : r ≠ (a j).b := fun e => hfj.2.2 (by rw [← e]; rfl)
  have hne : (a i).b ≠ (a j).b := fun e => hij (h.inj i j hi hj e)
  have o1 := (h.row.stored i (.pointer (some ⟨(a j).b, 0, none⟩))).1
  have o2 := (o1.stored j (.pointer (some ⟨(a i).b, 0, none⟩))).1
  rw [hw, ptrs_set2 hi hj hij] at o2
  have ho : ∀ g, g ≠ r → w1.heap[g]? = w.heap[g]? := fun g hg => by
    rw [← hw]
    exact (setCell_other (p := ⟨r, j, none⟩) _ hg).trans (setCell_other (p := ⟨r, i, none⟩) _ hg)
  have b1 := (ho _ hri.symm).trans (h.item i hi)
  have b2 := (ho _ hrj.symm).trans (h.item j hj)
  obtain ⟨r2, c2, hv2, _, _, hcs2⟩ := own_cells o2 (by omega)
  injection hv2 with hv2
  injection hv2 with hv2
  injection hv2 with hv2
  subst hv2
  have g1 := hcs2 i _ (ptrs_get hi)
  have g2 := hcs2 j _ (ptrs_get hj)
  rw [show swp a i j i = a j from by simp [swp]] at g1
  rw [show swp a i j j = a i from by simp [swp, hij.symm]] at g2
  exact ⟨by simpa using g1, by simpa using g2, by rw [cell_of_row w1 _ 2 _ _ _ b1]; rfl, by rw [cell_of_row w1 _ 2 _ _ _ b2]; rfl, frozen0 2 b1, frozen0 2 b2, hne⟩

set_option maxRecDepth 100000 in
theorem swap_calls (q n : Nat) (a : Nat → It) (v mv : Value) (F : Nat → Prop) (w : World) (h : Arr q n a v mv F w) (i j : Nat) (hi : i < n) (hj : j < n) (hij : i ≠ j) :
    Calls Try.prog 74 #[v, .int .i64 i, .int .i64 j] w fun e w' => e = .returned (.tuple #[]) ∧ Arr q n (swp a i j) v mv F w' ∧ Keep F w w' := by
  obtain ⟨r, c, rfl, hr, hnc, i0, _, _, i2⟩ := h.get i hi
  obtain ⟨r2, c2, hv, _, _, j0, _, _, j2⟩ := h.get j hj
  injection hv with hv1 hv2 hv3
  injection hv1 with hv1
  injection hv1 with hv1
  subst hv1
  subst hv3
  have hd := h.grow ((Keep.refl NoB w).drew)
  have i0' : w.drew.cell? ⟨r, i, none⟩ = some (.pointer (some ⟨(a i).b, 0, none⟩)) := by simpa using i0
  have j0' : w.drew.cell? ⟨r, j, none⟩ = some (.pointer (some ⟨(a j).b, 0, none⟩)) := by simpa using j0
  have y0 : w.frozen? ⟨r, i, none⟩ = false := h.row.frozenAt _
  have y1 : w.frozen? ⟨r, j, none⟩ = false := h.row.frozenAt _
  have hji : j ≠ i := hij.symm
  have z0 : w.drew.frozen? ⟨r, i, none⟩ = false := hd.row.frozenAt _
  have o1 := (hd.row.stored i (.pointer (some ⟨(a j).b, 0, none⟩))).1
  have z1 : (w.drew.setCell ⟨r, i, none⟩ (.pointer (some ⟨(a j).b, 0, none⟩))).frozen? ⟨r, j, none⟩ = false := o1.frozenAt _
  have j1' : (w.drew.setCell ⟨r, i, none⟩ (.pointer (some ⟨(a j).b, 0, none⟩))).cell? ⟨r, j, none⟩ = some (.pointer (some ⟨(a j).b, 0, none⟩)) := by
    obtain ⟨r2, c2, hv2, _, _, hcs2⟩ := own_cells o1 (by omega)
    injection hv2 with hv2
    injection hv2 with hv2
    injection hv2 with hv2
    subst hv2
    have := hcs2 j (.pointer (some ⟨(a j).b, 0, none⟩)) (by rw [List.getElem?_set_ne (by omega)]; exact ptrs_get hj)
    simpa using this
  have H := Lib.hid h
  have Hd := Lib.hid hd
  have hi' : (i : Int) < n := by omega
  have hj' : (j : Int) < n := by omega
  clear h hd o1 z0 z1 j1'
  go_enter Try.func74, Try.ntmps74
  go_wp2
  refine region_ord [0, 1, 2, 3, 4, 5, 6, 7, 8, 9, 10, 11, 12, 13, 14, 15] [13, 15] [7, 11] [13, 15] rfl (by kernel_rfl) ?_
  iterate 7
    refine ord_pure rfl rfl rfl rfl rfl (fun _ _ _ _ h => h) ?_ ?_ ?_ ?_ ?_
    rotate_left 2
    · intro w'; go_simp; with_reducible rfl
    · simp only [Act.put, List.setIfInBounds_toArray, List.set_cons_zero, List.set_cons_succ]; rfl
  refine ord_read rfl rfl rfl rfl rfl (fun _ _ _ _ h => h) ?_ ?_ ?_ ?_ ?_
  rotate_left 2
  · intro w' hg; have q := hg.cell j0' (fun h => h); go_simp; with_reducible rfl
  · simp only [Act.put, List.setIfInBounds_toArray, List.set_cons_zero, List.set_cons_succ]; rfl
  iterate 3
    refine ord_pure rfl rfl rfl rfl rfl (fun _ _ _ _ h => h) ?_ ?_ ?_ ?_ ?_
    rotate_left 2
    · intro w'; go_simp; with_reducible rfl
    · simp only [Act.put, List.setIfInBounds_toArray, List.set_cons_zero, List.set_cons_succ]; rfl
  refine ord_read rfl rfl rfl rfl rfl (fun _ _ _ _ h => h) ?_ ?_ ?_ ?_ ?_
  rotate_left 2
  · intro w' hg; have q := hg.cell i0' (fun h => h); go_simp; with_reducible rfl
  · simp only [Act.put, List.setIfInBounds_toArray, List.set_cons_zero, List.set_cons_succ]; rfl
  refine ord_pure rfl rfl rfl rfl rfl (fun _ _ _ _ h => h) ?_ ?_ ?_ ?_ ?_
  rotate_left 2
  · intro w'; go_simp; with_reducible rfl
  · simp only [Act.put, List.setIfInBounds_toArray, List.set_cons_zero, List.set_cons_succ]; rfl
  refine ord_put rfl rfl rfl rfl ?_ ?_ (fun h => absurd (by simp) h) ?_
  rotate_left
  · go_simp; with_reducible rfl
  refine ord_pure rfl rfl rfl rfl rfl (fun _ _ _ _ h => h) ?_ ?_ ?_ ?_ ?_
  rotate_left 2
  · intro w'; go_simp; with_reducible rfl
  · simp only [Act.put, List.setIfInBounds_toArray, List.set_cons_zero, List.set_cons_succ]; rfl
  refine ord_put rfl rfl rfl rfl ?_ ?_ (fun h => absurd (by simp) h) ?_
  rotate_left
  · go_simp; with_reducible rfl
  refine ord_nil ?_
  have hsw := Lib.hid (H.out.swapped hi hj hij)
  obtain ⟨m1, m2, m3, m4, m5, m6, m7⟩ := H.out.mid hi hj hij rfl
  generalize (w.setCell ⟨r, i, none⟩ (.pointer (some ⟨(a j).b, 0, none⟩))).setCell ⟨r, j, none⟩ (.pointer (some ⟨(a i).b, 0, none⟩)) = w1 at *
  clear i0 j0 i2 j2 i0' j0' y0 y1 Hd H
  have m7' := m7.symm
  have m1' : w1.drew.drew.cell? ⟨r, i, none⟩ = some (.pointer (some ⟨(a j).b, 0, none⟩)) := by simpa using m1
  have m2' : w1.drew.drew.cell? ⟨r, j, none⟩ = some (.pointer (some ⟨(a i).b, 0, none⟩)) := by simpa using m2
  go_wp2
  refine region_ord [0, 1, 2, 3, 4, 5, 6, 7, 8, 9, 10, 11, 12, 13, 14, 15] [12, 15] [3, 7] [12, 15] rfl (by kernel_rfl) ?_
  iterate 3
    refine ord_pure rfl rfl rfl rfl rfl (fun _ _ _ _ h => h) ?_ ?_ ?_ ?_ ?_
    rotate_left 2
    · intro w'; go_simp; with_reducible rfl
    · simp only [Act.put, List.setIfInBounds_toArray, List.set_cons_zero, List.set_cons_succ]; rfl
  refine ord_read rfl rfl rfl rfl rfl (fun _ _ _ _ h => h) ?_ ?_ ?_ ?_ ?_
  rotate_left 2
  · intro w' hg; have q := hg.cell m1' (fun h => h); go_simp; with_reducible rfl
  · simp only [Act.put, List.setIfInBounds_toArray, List.set_cons_zero, List.set_cons_succ]; rfl
  iterate 3
    refine ord_pure rfl rfl rfl rfl rfl (fun _ _ _ _ h => h) ?_ ?_ ?_ ?_ ?_
    rotate_left 2
    · intro w'; go_simp; with_reducible rfl
    · simp only [Act.put, List.setIfInBounds_toArray, List.set_cons_zero, List.set_cons_succ]; rfl
  refine ord_read rfl rfl rfl rfl rfl (fun _ _ _ _ h => h) ?_ ?_ ?_ ?_ ?_
  rotate_left 2
  · intro w' hg; have q := hg.cell m2' (fun h => h); go_simp; with_reducible rfl
  · simp only [Act.put, List.setIfInBounds_toArray, List.set_cons_zero, List.set_cons_succ]; rfl
  iterate 4
    refine ord_pure rfl rfl rfl rfl rfl (fun _ _ _ _ h => h) ?_ ?_ ?_ ?_ ?_
    rotate_left 2
    · intro w'; go_simp; with_reducible rfl
    · simp only [Act.put, List.setIfInBounds_toArray, List.set_cons_zero, List.set_cons_succ]; rfl
  refine ord_put rfl rfl rfl rfl ?_ ?_ (fun h => absurd (by simp) h) ?_
  rotate_left
  · go_simp; with_reducible rfl
  iterate 2
    refine ord_pure rfl rfl rfl rfl rfl (fun _ _ _ _ h => h) ?_ ?_ ?_ ?_ ?_
    rotate_left 2
    · intro w'; go_simp; with_reducible rfl
    · simp only [Act.put, List.setIfInBounds_toArray, List.set_cons_zero, List.set_cons_succ]; rfl
  refine ord_put rfl rfl rfl rfl ?_ ?_ (fun h => absurd (by simp) h) ?_
  rotate_left
  · go_simp; with_reducible rfl
  refine ord_nil ?_
  go_wp2
  go_end0
  exact ⟨rfl, (hsw.out.1.grow ((Keep.refl NoB _).drew)).grow ((Keep.refl NoB _).drew), hsw.out.2.drew.drew⟩
end Go.Proofs.Ytimpnbkincgbmaa
