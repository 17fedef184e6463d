import Derived.Test.YtimpnbkincgbmaaTkB
set_option linter.unusedSimpArgs false
set_option linter.unusedVariables false
namespace Go.Proofs.Ytimpnbkincgbmaa
open Go.RowKit

/-- The least so far. -/
def IsMin (l : List KT) (k : Nat) (b : KT) : Prop := (k = 0 ∧ b = (0, 0)) ∨ (b ∈ l.take k ∧ ∀ y ∈ l.take k, lekt b y)
theorem IsMin.keep {l : List KT} {k : Nat} {b : KT} (hk : k < l.length) (h0 : 0 < k) (h : IsMin l k b) (hb : lekt b l[k]) : IsMin l (k + 1) b := by
  rcases h with ⟨e, _⟩ | ⟨h1, h2⟩
  · omega
  · right
    rw [List.take_succ_eq_append_getElem hk]
    refine ⟨List.mem_append_left _ h1, fun y hy => ?_⟩
    rcases List.mem_append.1 hy with e | e
    · exact h2 y e
    · rw [List.mem_singleton.1 e]; exact hb
theorem IsMin.take {l : List KT} {k : Nat} {b : KT} (hk : k < l.length) (h : IsMin l k b) (hb : k = 0 ∨ lekt l[k] b) : IsMin l (k + 1) l[k] := by
  right
  rw [List.take_succ_eq_append_getElem hk]
  refine ⟨List.mem_append_right _ (by simp), fun y hy => ?_⟩
  rcases List.mem_append.1 hy with e | e
  · rcases h with ⟨e2, _⟩ | ⟨h1, h2⟩
    · subst e2; simp at e
    · rcases hb with e3 | h3
      · subst e3; simp at e
      · exact lekt_trans h3 (h2 y e)
  · rw [List.mem_singleton.1 e]
    unfold lekt
    omega
theorem heap_setCell2 {w : World} {g T : Nat} {x y : Value} (u v : Value) (h : w.heap[g]? = some (.cells #[x, y] T (0, 0))) : ((w.setCell ⟨g, 0, none⟩ u).setCell ⟨g, 1, none⟩ v).heap[g]? = some (.cells #[u, v] T (0, 0)) := by
  simp only [World.setCell, Array.getElem?_modify]
  simp [h]
theorem lekt_total (x y : KT) : lekt x y ∨ lekt y x := by unfold lekt; omega

set_option maxRecDepth 100000 in
set_option maxHeartbeats 2000000 in
theorem knext_calls (l : List KT) (v : Value) (w : World) (h : Kl l v w) (hl : l.length ≤ 1000) :
    Calls Try.prog 50 #[v] w fun e w' => ∃ b : KT, e = .returned (.tuple #[.agg #[.int .i64 b.1, .int .i64 b.2], .bool (decide (0 < l.length))]) ∧ Grow w w' ∧ IsMin l l.length b := by
  obtain ⟨A, n, rfl⟩ := h.slice
  have H := Lib.hid h
  clear h
  go_enter Try.func50, Try.ntmps50
  go_wp2
  go_loopw [5] (fun v wr => ∃ (k : Nat) (b : KT), k ≤ l.length ∧ v = .int .i64 k ∧ Hid (IsMin l k b) ∧ Hid (Grow w wr ∧ wr.heap[w.heap.size + 1]? = some (.cells #[.int .i64 b.1, .int .i64 b.2] 106 (0, 0)) ∧ wr.heap[w.heap.size]? = some (.cells #[.int .i64 0, .int .i64 0] 106 (0, 0)))) (fun v _ => l.length - (intOf v).toNat)
  case atStart =>
    refine ⟨0, (0, 0), by omega, rfl, .inl ⟨rfl, rfl⟩, ((Keep.refl _ _).alloc _).alloc _, ?_, ?_⟩
    · have := heap_alloc_new (w.alloc (.cells #[.int .i64 0, .int .i64 0] 106)) (.cells #[.int .i64 0, .int .i64 0] 106)
      simpa using this
    · have h1 := heap_alloc_new w (.cells #[.int .i64 0, .int .i64 0] 106)
      have h2 := ((Keep.refl NoB (w.alloc (.cells #[.int .i64 0, .int .i64 0] 106))).alloc (.cells #[.int .i64 0, .int .i64 0] 106)).block w.heap.size (by simp) (fun h => h)
      exact h2.trans h1
  case round =>
    obtain ⟨k, b, hk, rfl, HM, HG⟩ := hrel
    have hB := HG.out.2.1
    have hR := HG.out.2.2
    have b0 : wr.cell? ⟨w.heap.size + 1, 0, none⟩ = some (.int .i64 b.1) := World.news_of_block hB 0 _ rfl
    have b1 : wr.cell? ⟨w.heap.size + 1, 1, none⟩ = some (.int .i64 b.2) := World.news_of_block hB 1 _ rfl
    have f0 := frozen0 0 hB
    have f1 := frozen0 1 hB
    have hS : ∀ x y : Int, ((wr.setCell ⟨w.heap.size + 1, 0, none⟩ (.int .i64 x)).setCell ⟨w.heap.size + 1, 1, none⟩ (.int .i64 y)).drew.heap[w.heap.size + 1]? = some (.cells #[.int .i64 x, .int .i64 y] 106 (0, 0)) ∧ Grow w ((wr.setCell ⟨w.heap.size + 1, 0, none⟩ (.int .i64 x)).setCell ⟨w.heap.size + 1, 1, none⟩ (.int .i64 y)).drew ∧ ((wr.setCell ⟨w.heap.size + 1, 0, none⟩ (.int .i64 x)).setCell ⟨w.heap.size + 1, 1, none⟩ (.int .i64 y)).drew.heap[w.heap.size]? = some (.cells #[.int .i64 0, .int .i64 0] 106 (0, 0)) := fun x y => by
      refine ⟨heap_setCell2 _ _ hB, ((HG.out.1.setCell (p := ⟨w.heap.size + 1, 0, none⟩) (.inr (by simp)) _).setCell (p := ⟨w.heap.size + 1, 1, none⟩) (.inr (by simp)) _).drew, ?_⟩
      exact ((setCell_other (p := ⟨w.heap.size + 1, 1, none⟩) _ (by simp)).trans (setCell_other (p := ⟨w.heap.size + 1, 0, none⟩) _ (by simp))).trans hR
    have HS := Lib.hid hS
    clear hS
    by_cases hlt : k < l.length
    · obtain ⟨r, c, hv, h2, h3⟩ := (H.out.grow HG.out.1).get k hlt
      injection hv with hv1 hv2 hv3
      subst hv1
      subst hv3
      have hw : IntKind.i64.wrap ((k : Int) + 1) = (k : Int) + 1 := IntWalk.i64_in _ (by omega)
      have hlt' : (k : Int) < l.length := by omega
      have d0 : wr.drew.cell? ⟨w.heap.size + 1, 0, none⟩ = some (.int .i64 b.1) := by simpa using b0
      have d1 : wr.drew.cell? ⟨w.heap.size + 1, 1, none⟩ = some (.int .i64 b.2) := by simpa using b1
      have d2 : wr.drew.cell? ⟨r, k * 2, none⟩ = some (.int .i64 l[k].1) := by simpa using h2
      have d3 : wr.drew.cell? ⟨r, k * 2 + 1, none⟩ = some (.int .i64 l[k].2) := by simpa using h3
      rcases Nat.eq_zero_or_pos k with h0 | h0
      · subst h0
        have HM2 := Lib.hid (HM.out.take hlt (.inl rfl))
        go_wp2
        refine region_ord [0, 1, 2, 3, 4, 5, 6, 7, 8, 9, 10, 11, 12, 13, 14, 15, 16, 17, 18, 19, 20, 21, 22, 23, 24, 25, 26, 27, 28, 29, 30, 31] [] [7, 9, 17, 19, 26, 28] [] rfl (by kernel_rfl) ?_
        iterate 3
          refine ord_pure rfl rfl rfl rfl rfl (fun _ _ _ _ h => h) ?_ ?_ ?_ ?_ ?_
          rotate_left 2
          · intro w'; go_simp; with_reducible rfl
          · simp only [Act.put, List.setIfInBounds_toArray, List.set_cons_zero, List.set_cons_succ]; rfl
        iterate 8
          refine ord_skip rfl rfl rfl rfl (fun _ _ _ _ h => h) ?_ ?_ ?_
          rotate_left 1
          · simp only [Act.put, List.setIfInBounds_toArray, List.set_cons_zero, List.set_cons_succ]; rfl
        refine ord_pure rfl rfl rfl rfl rfl (fun _ _ _ _ h => h) ?_ ?_ ?_ ?_ ?_
        rotate_left 2
        · intro w'; go_simp; with_reducible rfl
        · simp only [Act.put, List.setIfInBounds_toArray, List.set_cons_zero, List.set_cons_succ]; rfl
        refine ord_pure rfl rfl rfl rfl rfl (fun _ _ _ _ h => h) ?_ ?_ ?_ ?_ ?_
        rotate_left 2
        · intro w'; go_simp; with_reducible rfl
        · simp only [Act.put, List.setIfInBounds_toArray, List.set_cons_zero, List.set_cons_succ]; rfl
        iterate 18
          refine ord_skip rfl rfl rfl rfl (fun _ _ _ _ h => h) ?_ ?_ ?_
          rotate_left 1
          · simp only [Act.put, List.setIfInBounds_toArray, List.set_cons_zero, List.set_cons_succ]; rfl
        refine ord_pure rfl rfl rfl rfl rfl (fun _ _ _ _ h => h) ?_ ?_ ?_ ?_ ?_
        rotate_left 2
        · intro w'; go_simp; with_reducible rfl
        · simp only [Act.put, List.setIfInBounds_toArray, List.set_cons_zero, List.set_cons_succ]; rfl
        refine ord_nil ?_
        clear HM
        go_wp2
        go_roundw
        case rel => exact ⟨1, l[0], by omega, by go_num, HM2, (HS.out _ _).2.1, (HS.out _ _).1, (HS.out _ _).2.2⟩
        case measure => simp [intOf]; omega
      · have hk0 : ((k : Int) == 0) = false := beq_eq_false_iff_ne.2 (by omega)
        by_cases hA : l[k].2 < b.2
        · have HM2 := Lib.hid (HM.out.take hlt (.inr (by unfold lekt; omega)))
          clear HM
          go_wp2
          refine region_ord [0, 1, 2, 3, 4, 5, 6, 7, 8, 9, 10, 11, 12, 13, 14, 15, 16, 17, 18, 19, 20, 21, 22, 23, 24, 25, 26, 27, 28, 29, 30, 31] [] [7, 9, 17, 19, 26, 28] [] rfl (by kernel_rfl) ?_
          iterate 3
            refine ord_pure rfl rfl rfl rfl rfl (fun _ _ _ _ h => h) ?_ ?_ ?_ ?_ ?_
            rotate_left 2
            · intro w'; go_simp; with_reducible rfl
            · simp only [Act.put, List.setIfInBounds_toArray, List.set_cons_zero, List.set_cons_succ]; rfl
          iterate 4
            refine ord_pureG rfl rfl rfl rfl rfl (fun _ _ _ _ h => h) ?_ ?_ ?_ ?_ ?_
            rotate_left 2
            · intro w'; go_simp; with_reducible rfl
            · simp only [Act.put, List.setIfInBounds_toArray, List.set_cons_zero, List.set_cons_succ]; rfl
          refine ord_readG rfl rfl rfl rfl rfl (fun _ _ _ _ h => h) ?_ ?_ ?_ ?_ ?_
          rotate_left 2
          · intro w' hg; have q := hg.cell d3 (fun h => h); go_simp; with_reducible rfl
          · simp only [Act.put, List.setIfInBounds_toArray, List.set_cons_zero, List.set_cons_succ]; rfl
          refine ord_pureG rfl rfl rfl rfl rfl (fun _ _ _ _ h => h) ?_ ?_ ?_ ?_ ?_
          rotate_left 2
          · intro w'; go_simp; with_reducible rfl
          · simp only [Act.put, List.setIfInBounds_toArray, List.set_cons_zero, List.set_cons_succ]; rfl
          refine ord_readG rfl rfl rfl rfl rfl (fun _ _ _ _ h => h) ?_ ?_ ?_ ?_ ?_
          rotate_left 2
          · intro w' hg; have q := hg.cell d1 (fun h => h); go_simp; with_reducible rfl
          · simp only [Act.put, List.setIfInBounds_toArray, List.set_cons_zero, List.set_cons_succ]; rfl
          refine ord_pureG rfl rfl rfl rfl rfl (fun _ _ _ _ h => h) ?_ ?_ ?_ ?_ ?_
          rotate_left 2
          · intro w'; go_simp; with_reducible rfl
          · simp only [Act.put, List.setIfInBounds_toArray, List.set_cons_zero, List.set_cons_succ]; rfl
          iterate 2
            refine ord_pure rfl rfl rfl rfl rfl (fun _ _ _ _ h => h) ?_ ?_ ?_ ?_ ?_
            rotate_left 2
            · intro w'; go_simp; with_reducible rfl
            · simp only [Act.put, List.setIfInBounds_toArray, List.set_cons_zero, List.set_cons_succ]; rfl
          iterate 18
            refine ord_skip rfl rfl rfl rfl (fun _ _ _ _ h => h) ?_ ?_ ?_
            rotate_left 1
            · simp only [Act.put, List.setIfInBounds_toArray, List.set_cons_zero, List.set_cons_succ]; rfl
          refine ord_pure rfl rfl rfl rfl rfl (fun _ _ _ _ h => h) ?_ ?_ ?_ ?_ ?_
          rotate_left 2
          · intro w'; go_simp; with_reducible rfl
          · simp only [Act.put, List.setIfInBounds_toArray, List.set_cons_zero, List.set_cons_succ]; rfl
          refine ord_nil ?_
          go_wp2
          go_roundw
          case rel => exact ⟨k + 1, l[k], by omega, by go_num, HM2, (HS.out _ _).2.1, (HS.out _ _).1, (HS.out _ _).2.2⟩
          case measure => simp [intOf]; omega
        · have gA : decide (l[k].2 < b.2) = false := decide_eq_false hA
          by_cases hE : l[k].2 = b.2
          · have gE : (l[k].2 == b.2) = true := beq_iff_eq.2 hE
            by_cases hK : l[k].1 < b.1
            · have HM2 := Lib.hid (HM.out.take hlt (.inr (by unfold lekt; omega)))
              clear HM hE
              go_wp2
              refine region_ord [0, 1, 2, 3, 4, 5, 6, 7, 8, 9, 10, 11, 12, 13, 14, 15, 16, 17, 18, 19, 20, 21, 22, 23, 24, 25, 26, 27, 28, 29, 30, 31] [] [7, 9, 17, 19, 26, 28] [] rfl (by kernel_rfl) ?_
              iterate 3
                refine ord_pure rfl rfl rfl rfl rfl (fun _ _ _ _ h => h) ?_ ?_ ?_ ?_ ?_
                rotate_left 2
                · intro w'; go_simp; with_reducible rfl
                · simp only [Act.put, List.setIfInBounds_toArray, List.set_cons_zero, List.set_cons_succ]; rfl
              iterate 4
                refine ord_pureG rfl rfl rfl rfl rfl (fun _ _ _ _ h => h) ?_ ?_ ?_ ?_ ?_
                rotate_left 2
                · intro w'; go_simp; with_reducible rfl
                · simp only [Act.put, List.setIfInBounds_toArray, List.set_cons_zero, List.set_cons_succ]; rfl
              refine ord_readG rfl rfl rfl rfl rfl (fun _ _ _ _ h => h) ?_ ?_ ?_ ?_ ?_
              rotate_left 2
              · intro w' hg; have q := hg.cell d3 (fun h => h); go_simp; with_reducible rfl
              · simp only [Act.put, List.setIfInBounds_toArray, List.set_cons_zero, List.set_cons_succ]; rfl
              refine ord_pureG rfl rfl rfl rfl rfl (fun _ _ _ _ h => h) ?_ ?_ ?_ ?_ ?_
              rotate_left 2
              · intro w'; go_simp; with_reducible rfl
              · simp only [Act.put, List.setIfInBounds_toArray, List.set_cons_zero, List.set_cons_succ]; rfl
              refine ord_readG rfl rfl rfl rfl rfl (fun _ _ _ _ h => h) ?_ ?_ ?_ ?_ ?_
              rotate_left 2
              · intro w' hg; have q := hg.cell d1 (fun h => h); go_simp; with_reducible rfl
              · simp only [Act.put, List.setIfInBounds_toArray, List.set_cons_zero, List.set_cons_succ]; rfl
              refine ord_pureG rfl rfl rfl rfl rfl (fun _ _ _ _ h => h) ?_ ?_ ?_ ?_ ?_
              rotate_left 2
              · intro w'; go_simp; with_reducible rfl
              · simp only [Act.put, List.setIfInBounds_toArray, List.set_cons_zero, List.set_cons_succ]; rfl
              iterate 2
                refine ord_pure rfl rfl rfl rfl rfl (fun _ _ _ _ h => h) ?_ ?_ ?_ ?_ ?_
                rotate_left 2
                · intro w'; go_simp; with_reducible rfl
                · simp only [Act.put, List.setIfInBounds_toArray, List.set_cons_zero, List.set_cons_succ]; rfl
              iterate 4
                refine ord_pureG rfl rfl rfl rfl rfl (fun _ _ _ _ h => h) ?_ ?_ ?_ ?_ ?_
                rotate_left 2
                · intro w'; go_simp; with_reducible rfl
                · simp only [Act.put, List.setIfInBounds_toArray, List.set_cons_zero, List.set_cons_succ]; rfl
              refine ord_readG rfl rfl rfl rfl rfl (fun _ _ _ _ h => h) ?_ ?_ ?_ ?_ ?_
              rotate_left 2
              · intro w' hg; have q := hg.cell d3 (fun h => h); go_simp; with_reducible rfl
              · simp only [Act.put, List.setIfInBounds_toArray, List.set_cons_zero, List.set_cons_succ]; rfl
              refine ord_pureG rfl rfl rfl rfl rfl (fun _ _ _ _ h => h) ?_ ?_ ?_ ?_ ?_
              rotate_left 2
              · intro w'; go_simp; with_reducible rfl
              · simp only [Act.put, List.setIfInBounds_toArray, List.set_cons_zero, List.set_cons_succ]; rfl
              refine ord_readG rfl rfl rfl rfl rfl (fun _ _ _ _ h => h) ?_ ?_ ?_ ?_ ?_
              rotate_left 2
              · intro w' hg; have q := hg.cell d1 (fun h => h); go_simp; with_reducible rfl
              · simp only [Act.put, List.setIfInBounds_toArray, List.set_cons_zero, List.set_cons_succ]; rfl
              iterate 2
                refine ord_pureG rfl rfl rfl rfl rfl (fun _ _ _ _ h => h) ?_ ?_ ?_ ?_ ?_
                rotate_left 2
                · intro w'; go_simp; with_reducible rfl
                · simp only [Act.put, List.setIfInBounds_toArray, List.set_cons_zero, List.set_cons_succ]; rfl
              iterate 4
                refine ord_pureG rfl rfl rfl rfl rfl (fun _ _ _ _ h => h) ?_ ?_ ?_ ?_ ?_
                rotate_left 2
                · intro w'; go_simp; with_reducible rfl
                · simp only [Act.put, List.setIfInBounds_toArray, List.set_cons_zero, List.set_cons_succ]; rfl
              refine ord_readG rfl rfl rfl rfl rfl (fun _ _ _ _ h => h) ?_ ?_ ?_ ?_ ?_
              rotate_left 2
              · intro w' hg; have q := hg.cell d2 (fun h => h); go_simp; with_reducible rfl
              · simp only [Act.put, List.setIfInBounds_toArray, List.set_cons_zero, List.set_cons_succ]; rfl
              refine ord_pureG rfl rfl rfl rfl rfl (fun _ _ _ _ h => h) ?_ ?_ ?_ ?_ ?_
              rotate_left 2
              · intro w'; go_simp; with_reducible rfl
              · simp only [Act.put, List.setIfInBounds_toArray, List.set_cons_zero, List.set_cons_succ]; rfl
              refine ord_readG rfl rfl rfl rfl rfl (fun _ _ _ _ h => h) ?_ ?_ ?_ ?_ ?_
              rotate_left 2
              · intro w' hg; have q := hg.cell d0 (fun h => h); go_simp; with_reducible rfl
              · simp only [Act.put, List.setIfInBounds_toArray, List.set_cons_zero, List.set_cons_succ]; rfl
              refine ord_pureG rfl rfl rfl rfl rfl (fun _ _ _ _ h => h) ?_ ?_ ?_ ?_ ?_
              rotate_left 2
              · intro w'; go_simp; with_reducible rfl
              · simp only [Act.put, List.setIfInBounds_toArray, List.set_cons_zero, List.set_cons_succ]; rfl
              refine ord_pureG rfl rfl rfl rfl rfl (fun _ _ _ _ h => h) ?_ ?_ ?_ ?_ ?_
              rotate_left 2
              · intro w'; go_simp; with_reducible rfl
              · simp only [Act.put, List.setIfInBounds_toArray, List.set_cons_zero, List.set_cons_succ]; rfl
              refine ord_pure rfl rfl rfl rfl rfl (fun _ _ _ _ h => h) ?_ ?_ ?_ ?_ ?_
              rotate_left 2
              · intro w'; go_simp; with_reducible rfl
              · simp only [Act.put, List.setIfInBounds_toArray, List.set_cons_zero, List.set_cons_succ]; rfl
              refine ord_nil ?_
              go_wp2
              go_roundw
              case rel => exact ⟨k + 1, l[k], by omega, by go_num, HM2, (HS.out _ _).2.1, (HS.out _ _).1, (HS.out _ _).2.2⟩
              case measure => simp [intOf]; omega
            · have gK : decide (l[k].1 < b.1) = false := decide_eq_false hK
              have HM2 := Lib.hid (HM.out.keep hlt h0 (by unfold lekt; omega))
              clear HM hE
              go_wp2
              refine region_ord [0, 1, 2, 3, 4, 5, 6, 7, 8, 9, 10, 11, 12, 13, 14, 15, 16, 17, 18, 19, 20, 21, 22, 23, 24, 25, 26, 27, 28, 29, 30, 31] [] [7, 9, 17, 19, 26, 28] [] rfl (by kernel_rfl) ?_
              iterate 3
                refine ord_pure rfl rfl rfl rfl rfl (fun _ _ _ _ h => h) ?_ ?_ ?_ ?_ ?_
                rotate_left 2
                · intro w'; go_simp; with_reducible rfl
                · simp only [Act.put, List.setIfInBounds_toArray, List.set_cons_zero, List.set_cons_succ]; rfl
              iterate 4
                refine ord_pureG rfl rfl rfl rfl rfl (fun _ _ _ _ h => h) ?_ ?_ ?_ ?_ ?_
                rotate_left 2
                · intro w'; go_simp; with_reducible rfl
                · simp only [Act.put, List.setIfInBounds_toArray, List.set_cons_zero, List.set_cons_succ]; rfl
              refine ord_readG rfl rfl rfl rfl rfl (fun _ _ _ _ h => h) ?_ ?_ ?_ ?_ ?_
              rotate_left 2
              · intro w' hg; have q := hg.cell d3 (fun h => h); go_simp; with_reducible rfl
              · simp only [Act.put, List.setIfInBounds_toArray, List.set_cons_zero, List.set_cons_succ]; rfl
              refine ord_pureG rfl rfl rfl rfl rfl (fun _ _ _ _ h => h) ?_ ?_ ?_ ?_ ?_
              rotate_left 2
              · intro w'; go_simp; with_reducible rfl
              · simp only [Act.put, List.setIfInBounds_toArray, List.set_cons_zero, List.set_cons_succ]; rfl
              refine ord_readG rfl rfl rfl rfl rfl (fun _ _ _ _ h => h) ?_ ?_ ?_ ?_ ?_
              rotate_left 2
              · intro w' hg; have q := hg.cell d1 (fun h => h); go_simp; with_reducible rfl
              · simp only [Act.put, List.setIfInBounds_toArray, List.set_cons_zero, List.set_cons_succ]; rfl
              refine ord_pureG rfl rfl rfl rfl rfl (fun _ _ _ _ h => h) ?_ ?_ ?_ ?_ ?_
              rotate_left 2
              · intro w'; go_simp; with_reducible rfl
              · simp only [Act.put, List.setIfInBounds_toArray, List.set_cons_zero, List.set_cons_succ]; rfl
              iterate 2
                refine ord_pure rfl rfl rfl rfl rfl (fun _ _ _ _ h => h) ?_ ?_ ?_ ?_ ?_
                rotate_left 2
                · intro w'; go_simp; with_reducible rfl
                · simp only [Act.put, List.setIfInBounds_toArray, List.set_cons_zero, List.set_cons_succ]; rfl
              iterate 4
                refine ord_pureG rfl rfl rfl rfl rfl (fun _ _ _ _ h => h) ?_ ?_ ?_ ?_ ?_
                rotate_left 2
                · intro w'; go_simp; with_reducible rfl
                · simp only [Act.put, List.setIfInBounds_toArray, List.set_cons_zero, List.set_cons_succ]; rfl
              refine ord_readG rfl rfl rfl rfl rfl (fun _ _ _ _ h => h) ?_ ?_ ?_ ?_ ?_
              rotate_left 2
              · intro w' hg; have q := hg.cell d3 (fun h => h); go_simp; with_reducible rfl
              · simp only [Act.put, List.setIfInBounds_toArray, List.set_cons_zero, List.set_cons_succ]; rfl
              refine ord_pureG rfl rfl rfl rfl rfl (fun _ _ _ _ h => h) ?_ ?_ ?_ ?_ ?_
              rotate_left 2
              · intro w'; go_simp; with_reducible rfl
              · simp only [Act.put, List.setIfInBounds_toArray, List.set_cons_zero, List.set_cons_succ]; rfl
              refine ord_readG rfl rfl rfl rfl rfl (fun _ _ _ _ h => h) ?_ ?_ ?_ ?_ ?_
              rotate_left 2
              · intro w' hg; have q := hg.cell d1 (fun h => h); go_simp; with_reducible rfl
              · simp only [Act.put, List.setIfInBounds_toArray, List.set_cons_zero, List.set_cons_succ]; rfl
              iterate 2
                refine ord_pureG rfl rfl rfl rfl rfl (fun _ _ _ _ h => h) ?_ ?_ ?_ ?_ ?_
                rotate_left 2
                · intro w'; go_simp; with_reducible rfl
                · simp only [Act.put, List.setIfInBounds_toArray, List.set_cons_zero, List.set_cons_succ]; rfl
              iterate 4
                refine ord_pureG rfl rfl rfl rfl rfl (fun _ _ _ _ h => h) ?_ ?_ ?_ ?_ ?_
                rotate_left 2
                · intro w'; go_simp; with_reducible rfl
                · simp only [Act.put, List.setIfInBounds_toArray, List.set_cons_zero, List.set_cons_succ]; rfl
              refine ord_readG rfl rfl rfl rfl rfl (fun _ _ _ _ h => h) ?_ ?_ ?_ ?_ ?_
              rotate_left 2
              · intro w' hg; have q := hg.cell d2 (fun h => h); go_simp; with_reducible rfl
              · simp only [Act.put, List.setIfInBounds_toArray, List.set_cons_zero, List.set_cons_succ]; rfl
              refine ord_pureG rfl rfl rfl rfl rfl (fun _ _ _ _ h => h) ?_ ?_ ?_ ?_ ?_
              rotate_left 2
              · intro w'; go_simp; with_reducible rfl
              · simp only [Act.put, List.setIfInBounds_toArray, List.set_cons_zero, List.set_cons_succ]; rfl
              refine ord_readG rfl rfl rfl rfl rfl (fun _ _ _ _ h => h) ?_ ?_ ?_ ?_ ?_
              rotate_left 2
              · intro w' hg; have q := hg.cell d0 (fun h => h); go_simp; with_reducible rfl
              · simp only [Act.put, List.setIfInBounds_toArray, List.set_cons_zero, List.set_cons_succ]; rfl
              refine ord_pureG rfl rfl rfl rfl rfl (fun _ _ _ _ h => h) ?_ ?_ ?_ ?_ ?_
              rotate_left 2
              · intro w'; go_simp; with_reducible rfl
              · simp only [Act.put, List.setIfInBounds_toArray, List.set_cons_zero, List.set_cons_succ]; rfl
              refine ord_pureG rfl rfl rfl rfl rfl (fun _ _ _ _ h => h) ?_ ?_ ?_ ?_ ?_
              rotate_left 2
              · intro w'; go_simp; with_reducible rfl
              · simp only [Act.put, List.setIfInBounds_toArray, List.set_cons_zero, List.set_cons_succ]; rfl
              refine ord_pure rfl rfl rfl rfl rfl (fun _ _ _ _ h => h) ?_ ?_ ?_ ?_ ?_
              rotate_left 2
              · intro w'; go_simp; with_reducible rfl
              · simp only [Act.put, List.setIfInBounds_toArray, List.set_cons_zero, List.set_cons_succ]; rfl
              refine ord_nil ?_
              go_wp2
              go_roundw
              case rel => exact ⟨k + 1, b, by omega, by go_num, HM2, HG.out.1.drew, HG.out.2.1, HG.out.2.2⟩
              case measure => simp [intOf]; omega
          · have gE : (l[k].2 == b.2) = false := beq_eq_false_iff_ne.2 hE
            have HM2 := Lib.hid (HM.out.keep hlt h0 (by unfold lekt; omega))
            clear HM hE
            go_wp2
            refine region_ord [0, 1, 2, 3, 4, 5, 6, 7, 8, 9, 10, 11, 12, 13, 14, 15, 16, 17, 18, 19, 20, 21, 22, 23, 24, 25, 26, 27, 28, 29, 30, 31] [] [7, 9, 17, 19, 26, 28] [] rfl (by kernel_rfl) ?_
            iterate 3
              refine ord_pure rfl rfl rfl rfl rfl (fun _ _ _ _ h => h) ?_ ?_ ?_ ?_ ?_
              rotate_left 2
              · intro w'; go_simp; with_reducible rfl
              · simp only [Act.put, List.setIfInBounds_toArray, List.set_cons_zero, List.set_cons_succ]; rfl
            iterate 4
              refine ord_pureG rfl rfl rfl rfl rfl (fun _ _ _ _ h => h) ?_ ?_ ?_ ?_ ?_
              rotate_left 2
              · intro w'; go_simp; with_reducible rfl
              · simp only [Act.put, List.setIfInBounds_toArray, List.set_cons_zero, List.set_cons_succ]; rfl
            refine ord_readG rfl rfl rfl rfl rfl (fun _ _ _ _ h => h) ?_ ?_ ?_ ?_ ?_
            rotate_left 2
            · intro w' hg; have q := hg.cell d3 (fun h => h); go_simp; with_reducible rfl
            · simp only [Act.put, List.setIfInBounds_toArray, List.set_cons_zero, List.set_cons_succ]; rfl
            refine ord_pureG rfl rfl rfl rfl rfl (fun _ _ _ _ h => h) ?_ ?_ ?_ ?_ ?_
            rotate_left 2
            · intro w'; go_simp; with_reducible rfl
            · simp only [Act.put, List.setIfInBounds_toArray, List.set_cons_zero, List.set_cons_succ]; rfl
            refine ord_readG rfl rfl rfl rfl rfl (fun _ _ _ _ h => h) ?_ ?_ ?_ ?_ ?_
            rotate_left 2
            · intro w' hg; have q := hg.cell d1 (fun h => h); go_simp; with_reducible rfl
            · simp only [Act.put, List.setIfInBounds_toArray, List.set_cons_zero, List.set_cons_succ]; rfl
            refine ord_pureG rfl rfl rfl rfl rfl (fun _ _ _ _ h => h) ?_ ?_ ?_ ?_ ?_
            rotate_left 2
            · intro w'; go_simp; with_reducible rfl
            · simp only [Act.put, List.setIfInBounds_toArray, List.set_cons_zero, List.set_cons_succ]; rfl
            iterate 2
              refine ord_pure rfl rfl rfl rfl rfl (fun _ _ _ _ h => h) ?_ ?_ ?_ ?_ ?_
              rotate_left 2
              · intro w'; go_simp; with_reducible rfl
              · simp only [Act.put, List.setIfInBounds_toArray, List.set_cons_zero, List.set_cons_succ]; rfl
            iterate 4
              refine ord_pureG rfl rfl rfl rfl rfl (fun _ _ _ _ h => h) ?_ ?_ ?_ ?_ ?_
              rotate_left 2
              · intro w'; go_simp; with_reducible rfl
              · simp only [Act.put, List.setIfInBounds_toArray, List.set_cons_zero, List.set_cons_succ]; rfl
            refine ord_readG rfl rfl rfl rfl rfl (fun _ _ _ _ h => h) ?_ ?_ ?_ ?_ ?_
            rotate_left 2
            · intro w' hg; have q := hg.cell d3 (fun h => h); go_simp; with_reducible rfl
            · simp only [Act.put, List.setIfInBounds_toArray, List.set_cons_zero, List.set_cons_succ]; rfl
            refine ord_pureG rfl rfl rfl rfl rfl (fun _ _ _ _ h => h) ?_ ?_ ?_ ?_ ?_
            rotate_left 2
            · intro w'; go_simp; with_reducible rfl
            · simp only [Act.put, List.setIfInBounds_toArray, List.set_cons_zero, List.set_cons_succ]; rfl
            refine ord_readG rfl rfl rfl rfl rfl (fun _ _ _ _ h => h) ?_ ?_ ?_ ?_ ?_
            rotate_left 2
            · intro w' hg; have q := hg.cell d1 (fun h => h); go_simp; with_reducible rfl
            · simp only [Act.put, List.setIfInBounds_toArray, List.set_cons_zero, List.set_cons_succ]; rfl
            iterate 2
              refine ord_pureG rfl rfl rfl rfl rfl (fun _ _ _ _ h => h) ?_ ?_ ?_ ?_ ?_
              rotate_left 2
              · intro w'; go_simp; with_reducible rfl
              · simp only [Act.put, List.setIfInBounds_toArray, List.set_cons_zero, List.set_cons_succ]; rfl
            iterate 8
              refine ord_skip rfl rfl rfl rfl (fun _ _ _ _ h => h) ?_ ?_ ?_
              rotate_left 1
              · simp only [Act.put, List.setIfInBounds_toArray, List.set_cons_zero, List.set_cons_succ]; rfl
            refine ord_pureG rfl rfl rfl rfl rfl (fun _ _ _ _ h => h) ?_ ?_ ?_ ?_ ?_
            rotate_left 2
            · intro w'; go_simp; with_reducible rfl
            · simp only [Act.put, List.setIfInBounds_toArray, List.set_cons_zero, List.set_cons_succ]; rfl
            refine ord_pure rfl rfl rfl rfl rfl (fun _ _ _ _ h => h) ?_ ?_ ?_ ?_ ?_
            rotate_left 2
            · intro w'; go_simp; with_reducible rfl
            · simp only [Act.put, List.setIfInBounds_toArray, List.set_cons_zero, List.set_cons_succ]; rfl
            refine ord_nil ?_
            go_wp2
            go_roundw
            case rel => exact ⟨k + 1, b, by omega, by go_num, HM2, HG.out.1.drew, HG.out.2.1, HG.out.2.2⟩
            case measure => simp [intOf]; omega
    · obtain rfl : k = l.length := by omega
      have hlt' : ¬ ((l.length : Int) < l.length) := by omega
      have r0 : wr.cell? ⟨w.heap.size, 0, none⟩ = some (.int .i64 0) := World.news_of_block hR 0 _ rfl
      have r1 : wr.cell? ⟨w.heap.size, 1, none⟩ = some (.int .i64 0) := World.news_of_block hR 1 _ rfl
      have g0 := frozen0 0 hR
      have g1 := frozen0 1 hR
      have HM2 := Lib.hid HM.out
      clear HM HS
      go_wp2
      (try simp only [Exit.inBlock, Exit.then])
      have hg3 : Grow w ((wr.setCell ⟨w.heap.size, 0, none⟩ (.int .i64 b.1)).setCell ⟨w.heap.size, 1, none⟩ (.int .i64 b.2)) := ((HG.out.1.setCell (p := ⟨w.heap.size, 0, none⟩) (.inr (Nat.le_refl _)) _).setCell (p := ⟨w.heap.size, 1, none⟩) (.inr (Nat.le_refl _)) _)
      have hX := heap_setCell2 (.int .i64 b.1) (.int .i64 b.2) hR
      have x0 : ((wr.setCell ⟨w.heap.size, 0, none⟩ (.int .i64 b.1)).setCell ⟨w.heap.size, 1, none⟩ (.int .i64 b.2)).cell? ⟨w.heap.size, 0, none⟩ = some (.int .i64 b.1) := World.news_of_block hX 0 _ rfl
      have x1 : ((wr.setCell ⟨w.heap.size, 0, none⟩ (.int .i64 b.1)).setCell ⟨w.heap.size, 1, none⟩ (.int .i64 b.2)).cell? ⟨w.heap.size, 1, none⟩ = some (.int .i64 b.2) := World.news_of_block hX 1 _ rfl
      refine bodyPost_ret (v := .tuple #[.agg #[.int .i64 b.1, .int .i64 b.2], .bool (decide (0 < l.length))]) ?_ rfl ⟨b.1, b.2, rfl, hg3, HM2.out⟩
      rw [results_cell_tmp rfl]; go_simp
end Go.Proofs.Ytimpnbkincgbmaa
