import Derived.Test.YtimpnbkincgbmaaNetC
set_option linter.unusedSimpArgs false
set_option linter.unusedVariables false
namespace Go.Proofs.Ytimpnbkincgbmaa
open Go.RowKit

theorem own_cells {base e size n : Nat} {v : Value} {xs : List Value} {w : World} (h : w.ownsRow base e size v n xs) (h0 : 0 < n) : ∃ r c, v = .slice (some ⟨r, 0, none⟩) n c ∧ v.ownBlock = some r ∧ n ≤ c ∧ ∀ j u, xs[j]? = some u → w.cell? ⟨r, 0 + j, none⟩ = some u := by
  rcases h.2 with ⟨rfl, rfl⟩ | ⟨g, cap, cur, rfl, hg, hh, hn, r⟩
  · omega
  · refine ⟨g, cap, rfl, rfl, hn, fun j u hj => ?_⟩
    have := h.cells (g := g) rfl j u hj
    rwa [show (⟨g, 0, none⟩ : Addr).add j = ⟨g, 0 + j, none⟩ from Addr.add_lit ..] at this

theorem NetIs.get {g : Nat} {l : List G} {F B : Nat → Prop} {w : World} {v : Value} {vs : List Value} (hN : NetIs g l F w v vs B) (i : Nat) (h1 : i < l.length) :
    ∃ r c A n, v = .slice (some ⟨r, 0, none⟩) l.length c ∧ v.ownBlock = some r ∧ w.cell? ⟨r, i * 2, none⟩ = some (.int .i64 l[i].1) ∧ w.cell? ⟨r, i * 2 + 1, none⟩ = some (.slice A l[i].2.length n) ∧ l[i].2.length ≤ 200 ∧
      Foot (SliceR 1 (.slice A l[i].2.length n) l[i].2.length (u8s l[i].2)) w B := by
  obtain ⟨r, c, hv, hr, _, hc⟩ := own_cells hN.row (by omega)
  obtain ⟨bv, h2, h3, h4, h5⟩ := hN.grams i l[i] (List.getElem?_eq_getElem h1)
  obtain ⟨A, n, rfl, _⟩ := h5.now
  exact ⟨r, c, A, n, hv, hr, by simpa using hc _ _ h2, by simpa using hc _ _ h3, h4, h5⟩

theorem natT (i : Nat) : ((i : Int)).toNat = i := Int.toNat_natCast i

theorem nat_nil (i : Int) (w : World) : Calls Try.prog 18 #[.pointer none, .int .i64 i] w fun e w' => e = .returned (.tuple #[.int .i64 0, .slice none 0 0, .bool false]) ∧ w = w' := by
  go_enter Try.func18, Try.ntmps18
  go_wp2
  go_ret3
  exact ⟨rfl, rfl⟩

theorem nat_no (g : Nat) (l : List G) (F : Nat → Prop) (i : Int) (w : World) (hN : Net g l F w) (hi : i < 0 ∨ l.length ≤ i) :
    Calls Try.prog 18 #[.pointer (some ⟨g, 0, none⟩), .int .i64 i] w fun e w' => e = .returned (.tuple #[.int .i64 0, .slice none 0 0, .bool false]) ∧ w = w' := by
  obtain ⟨v, vs, B, hN⟩ := hN
  obtain ⟨A, n, rfl, _⟩ := own_slice hN.row
  have hc := cell0 hN.cell
  have Hi := Lib.hid hi
  clear hN hi
  go_enter Try.func18, Try.ntmps18
  go_wp2_with fail
  refine (at_none g A l.length n i w hc Hi.out).mono ?_
  rintro e w' ⟨rfl, rfl⟩
  go_wp2
  go_ret3
  exact ⟨rfl, rfl⟩

set_option maxRecDepth 100000 in
theorem nat_yes (g : Nat) (l : List G) (F : Nat → Prop) (i : Nat) (w : World) (hN : Net g l F w) (h1 : i < l.length) :
    Calls Try.prog 18 #[.pointer (some ⟨g, 0, none⟩), .int .i64 i] w fun e w' => ∃ A c, e = .returned (.tuple #[.int .i64 l[i].1, .slice A l[i].2.length c, .bool true]) ∧
      w'.ownsRow w.heap.size 5 1 (.slice A l[i].2.length c) l[i].2.length (u8s l[i].2) ∧ Grow w w' := by
  obtain ⟨v, vs, B, hN⟩ := hN
  obtain ⟨r, c, A, n, rfl, hr, h2, h3, h4, h5⟩ := hN.get i h1
  have hc := cell0 hN.cell
  have Hb := Lib.hid h5.now
  have Hl := Lib.hid h4
  generalize l[i].2 = b at *
  generalize l[i].1 = to at *
  clear hN h5 h4
  go_enter Try.func18, Try.ntmps18
  go_wp2_with fail
  refine (at_some g r 0 l.length c i w hc (by omega) (by omega)).mono ?_
  rintro e w' ⟨rfl, rfl⟩
  rw [natT]
  go_wp2
  refine region_ord [0, 1, 2, 3, 4, 5, 6, 7, 8, 9, 10, 11] [8, 9, 10, 11] [3, 7] [] rfl (by kernel_rfl) ?_
  have h2d : w.drew.cell? ⟨r, i * 2, none⟩ = some (.int .i64 to) := by simpa using h2
  have h3d : w.drew.cell? ⟨r, i * 2 + 1, none⟩ = some (.slice A b.length n) := by simpa using h3
  iterate 3
    refine ord_pure rfl rfl rfl rfl rfl (fun _ _ _ _ h => h) ?_ ?_ ?_ ?_ ?_
    rotate_left 2
    · intro w'; go_simp; with_reducible rfl
    · simp only [Act.put, List.setIfInBounds_toArray, List.set_cons_zero, List.set_cons_succ]; rfl
  refine ord_read rfl rfl rfl rfl rfl (fun _ _ _ _ h => h) ?_ ?_ ?_ ?_ ?_
  rotate_left 2
  · intro w' hg; have q := hg.cell h2d (fun h => h); go_simp; with_reducible rfl
  · simp only [Act.put, List.setIfInBounds_toArray, List.set_cons_zero, List.set_cons_succ]; rfl
  iterate 3
    refine ord_pure rfl rfl rfl rfl rfl (fun _ _ _ _ h => h) ?_ ?_ ?_ ?_ ?_
    rotate_left 2
    · intro w'; go_simp; with_reducible rfl
    · simp only [Act.put, List.setIfInBounds_toArray, List.set_cons_zero, List.set_cons_succ]; rfl
  refine ord_read rfl rfl rfl rfl rfl (fun _ _ _ _ h => h) ?_ ?_ ?_ ?_ ?_
  rotate_left 2
  · intro w' hg; have q := hg.cell h3d (fun h => h); go_simp; with_reducible rfl
  · simp only [Act.put, List.setIfInBounds_toArray, List.set_cons_zero, List.set_cons_succ]; rfl
  refine ord_call rfl rfl rfl rfl rfl Try.func36 rfl rfl [.slice A b.length n] rfl ?_
  refine (bclone_calls _ b _ (Hb.out.grow ((Keep.refl _ _).drew)) (by have := Hl.out; omega)).mono ?_
  rintro e w1 ⟨A3, c3, rfl, ho, hgr⟩
  refine ⟨_, rfl, fun _ => hgr, ?_⟩
  simp only [Act.put, List.setIfInBounds_toArray, List.set_cons_zero, List.set_cons_succ]
  iterate 3
    refine ord_set rfl rfl rfl rfl ?_ ?_ ?_ ?_ ?_
    rotate_left 2
    · go_simp; with_reducible rfl
    · simp only [Act.put, List.setIfInBounds_toArray, List.set_cons_zero, List.set_cons_succ]; rfl
  refine ord_nil ?_
  go_wp2
  go_ret3
  exact ⟨A3, c3, rfl, ho, (Keep.refl _ _).drew.grow hgr⟩
end Go.Proofs.Ytimpnbkincgbmaa
