import Derived.Test.YtimpnbkincgbmaaMem
import Derived.Test.YtimpnbkincgbmaaOrd
import Derived.Test.YtimpnbkincgbmaaProg
import Derived.LoopTactic
import Derived.Test.YtimpnbkincgbmaaNetD
/-! The timer's heap: order, and the methods behind the interface. -/
set_option linter.unusedSimpArgs false
set_option linter.unusedVariables false
namespace Go.Proofs.Ytimpnbkincgbmaa
open Go.RowKit

def cmpI (x y : Int) : Int := if x < y then -1 else if y < x then 1 else 0
theorem nan_calls (x : Int) (w : World) : Calls Try.prog 77 #[.int .i64 x] w fun e w' => e = .returned (.bool false) ∧ w = w' := by
  go_enter Try.func77, Try.ntmps77
  go_wp2
  go_ret
  exact ⟨by simp, rfl⟩
theorem cmp_calls (x y : Int) (w : World) : Calls Try.prog 76 #[.int .i64 x, .int .i64 y] w fun e w' => e = .returned (.int .i64 (cmpI x y)) ∧ w = w' := by
  by_cases h1 : x < y
  · rw [show cmpI x y = -1 from by simp [cmpI, h1]]
    go_enter Try.func76, Try.ntmps76
    go_wp2_with fail
    refine (nan_calls x w).mono ?_
    rintro e w' ⟨rfl, rfl⟩
    go_wp2_with fail
    refine (nan_calls y w).mono ?_
    rintro e w' ⟨rfl, rfl⟩
    go_wp2
    go_ret
    exact ⟨rfl, rfl⟩
  by_cases h2 : y < x
  · rw [show cmpI x y = 1 from by simp [cmpI, h1, h2]]
    go_enter Try.func76, Try.ntmps76
    go_wp2_with fail
    refine (nan_calls x w).mono ?_
    rintro e w' ⟨rfl, rfl⟩
    go_wp2_with fail
    refine (nan_calls y w).mono ?_
    rintro e w' ⟨rfl, rfl⟩
    go_wp2
    go_ret
    exact ⟨rfl, rfl⟩
  · rw [show cmpI x y = 0 from by simp [cmpI, h1, h2]]
    go_enter Try.func76, Try.ntmps76
    go_wp2_with fail
    refine (nan_calls x w).mono ?_
    rintro e w' ⟨rfl, rfl⟩
    go_wp2_with fail
    refine (nan_calls y w).mono ?_
    rintro e w' ⟨rfl, rfl⟩
    go_wp2
    go_ret
    exact ⟨rfl, rfl⟩
theorem or_calls (x y z : Int) (hz : (if x = 0 then y else x) = z) (g : Nat) (w : World) (h0 : w.cell? ⟨g, 0, none⟩ = some (.int .i64 x)) (h1 : w.cell? ⟨g, 1, none⟩ = some (.int .i64 y)) :
    Calls Try.prog 75 #[.slice (some ⟨g, 0, none⟩) 2 2] w fun e w' => e = .returned (.int .i64 z) ∧ w = w' := by
  subst hz
  by_cases hx : x = 0
  · by_cases hy : y = 0
    · subst hx
      subst hy
      go_enter Try.func75, Try.ntmps75
      go_wp2
      go_loopw [8] (fun v wr => wr = w ∧ ∃ k : Nat, k ≤ 2 ∧ v = .int .i64 k) (fun v _ => 2 - (intOf v).toNat)
      case atStart => exact ⟨rfl, 0, by omega, rfl⟩
      case round =>
        obtain ⟨rfl, k, hk, rfl⟩ := hrel
        match k, hk with
        | 0, _ =>
          go_wp2
          go_roundw
          case rel => exact ⟨trivial, 1, by omega, by go_num⟩
          case measure => simp [intOf]
        | 1, _ =>
          go_wp2
          go_roundw
          case rel => exact ⟨trivial, 2, by omega, by go_num⟩
          case measure => simp [intOf]
        | 2, _ =>
          go_wp2
          go_ret
          exact ⟨rfl, rfl⟩
    · subst hx
      rw [show (if (0 : Int) = 0 then y else 0) = y from by simp]
      have hy' : (y == 0) = false := beq_eq_false_iff_ne.2 hy
      clear hy
      go_enter Try.func75, Try.ntmps75
      go_wp2
      go_loopw [8] (fun v wr => wr = w ∧ ∃ k : Nat, k ≤ 1 ∧ v = .int .i64 k) (fun v _ => 2 - (intOf v).toNat)
      case atStart => exact ⟨rfl, 0, by omega, rfl⟩
      case round =>
        obtain ⟨rfl, k, hk, rfl⟩ := hrel
        match k, hk with
        | 0, _ =>
          go_wp2
          go_roundw
          case rel => exact ⟨trivial, 1, by omega, by go_num⟩
          case measure => simp [intOf]
        | 1, _ =>
          go_wp2
          go_ret
          exact ⟨rfl, rfl⟩
  · rw [show (if x = 0 then y else x) = x from by simp [hx]]
    have hx' : (x == 0) = false := beq_eq_false_iff_ne.2 hx
    clear hx
    go_enter Try.func75, Try.ntmps75
    go_wp2
    go_loopw [8] (fun v wr => wr = w ∧ v = .int .i64 0) (fun v _ => 2 - (intOf v).toNat)
    case atStart => exact ⟨rfl, rfl⟩
    case round =>
      obtain ⟨rfl, rfl⟩ := hrel
      go_wp2
      go_ret
      exact ⟨rfl, rfl⟩

/-- An item: its block, key, time. -/
structure It where
  b : Nat
  k : Int
  t : Int
def It.less (x y : It) : Bool := decide (x.t < y.t ∨ x.t = y.t ∧ x.k < y.k)
theorem less_cmp (x y : It) : decide ((if cmpI x.t y.t = 0 then cmpI x.k y.k else cmpI x.t y.t) < 0) = x.less y := by
  unfold It.less cmpI
  rw [decide_eq_decide]
  by_cases h1 : x.t < y.t <;> by_cases h2 : y.t < x.t <;> by_cases h3 : x.k < y.k <;> by_cases h4 : y.k < x.k <;> simp [h1, h2, h3, h4] <;> omega

theorem info_ip : (Try.prog.info? 94).map (fun i => (i.zero, i.size, i.bytes)) = some (some (.pointer none), 1, 8) := by kernel_rfl
theorem u_ips : Try.prog.underlying 91 = some (.slice 94) := by kernel_rfl
theorem u_ipl : Try.prog.underlying 90 = some (.slice 94) := by kernel_rfl

def ptrs (n : Nat) (a : Nat → It) : List Value := (List.range n).map fun i => .pointer (some ⟨(a i).b, 0, none⟩)
theorem ptrs_get {n i : Nat} {a : Nat → It} (h : i < n) : (ptrs n a)[i]? = some (.pointer (some ⟨(a i).b, 0, none⟩)) := by simp [ptrs, h]
theorem ptrs_length (n : Nat) (a : Nat → It) : (ptrs n a).length = n := by simp [ptrs]
/-- The heap's array of the queue at q. -/
structure Arr (q n : Nat) (a : Nat → It) (v mv : Value) (F : Nat → Prop) (w : World) : Prop where
  cell : w.heap[q]? = some (.cells #[v, mv] 93 (0, 0))
  row : w.ownsRow 0 94 1 v n (ptrs n a)
  item : ∀ i, i < n → w.heap[(a i).b]? = some (.cells #[.int .i64 (a i).k, .int .i64 (a i).t, .int .i64 i] 96 (0, 0))
  inj : ∀ i j, i < n → j < n → (a i).b = (a j).b → i = j
  few : n ≤ 1000
  fq : F q
  frow : ∀ k, v.ownBlock = some k → F k ∧ k ≠ q
  fit : ∀ i, i < n → F (a i).b ∧ (a i).b ≠ q ∧ v.ownBlock ≠ some (a i).b
  lt : ∀ k, F k → k < w.heap.size
theorem Arr.keep {q n : Nat} {a : Nat → It} {v mv : Value} {F S : Nat → Prop} {w w' : World} (h : Arr q n a v mv F w) (hk : Keep S w w') (hd : ∀ k, F k → ¬ S k) : Arr q n a v mv F w' :=
  ⟨(hk.block q (h.lt q h.fq) (hd q h.fq)).trans h.cell, own_keep h.row hk (fun k hv => hd k (h.frow k hv).1), fun i hi => (hk.block _ (h.lt _ (h.fit i hi).1) (hd _ (h.fit i hi).1)).trans (h.item i hi), h.inj, h.few, h.fq, h.frow, h.fit, fun k hF => Nat.lt_of_lt_of_le (h.lt k hF) hk.size⟩
theorem Arr.grow {q n : Nat} {a : Nat → It} {v mv : Value} {F : Nat → Prop} {w w' : World} (h : Arr q n a v mv F w) (hk : Grow w w') : Arr q n a v mv F w' := h.keep hk (fun _ _ h => h)
theorem Arr.slice {q n : Nat} {a : Nat → It} {v mv : Value} {F : Nat → Prop} {w : World} (h : Arr q n a v mv F w) : ∃ A c, v = .slice A n c := by
  obtain ⟨A, c, e, _⟩ := own_slice h.row
  exact ⟨A, c, e⟩
/-- What one reads at an index. -/
theorem Arr.get {q n : Nat} {a : Nat → It} {v mv : Value} {F : Nat → Prop} {w : World} (h : Arr q n a v mv F w) (i : Nat) (hi : i < n) :
    ∃ r c, v = .slice (some ⟨r, 0, none⟩) n c ∧ v.ownBlock = some r ∧ n ≤ c ∧ w.cell? ⟨r, i, none⟩ = some (.pointer (some ⟨(a i).b, 0, none⟩)) ∧
      w.cell? ⟨(a i).b, 0, none⟩ = some (.int .i64 (a i).k) ∧ w.cell? ⟨(a i).b, 1, none⟩ = some (.int .i64 (a i).t) ∧ w.cell? ⟨(a i).b, 2, none⟩ = some (.int .i64 i) := by
  have hrow := h.row
  obtain ⟨r, c, hv, hr, hc, hcs⟩ := own_cells hrow (by omega)
  have := hcs i _ (ptrs_get hi)
  have hit := h.item i hi
  exact ⟨r, c, hv, hr, hc, by simpa using this, by rw [cell_of_row w _ 0 _ _ _ hit]; rfl, by rw [cell_of_row w _ 1 _ _ _ hit]; rfl, by rw [cell_of_row w _ 2 _ _ _ hit]; rfl⟩

set_option maxRecDepth 100000 in
theorem less_calls (q n : Nat) (a : Nat → It) (v mv : Value) (F : Nat → Prop) (w : World) (h : Arr q n a v mv F w) (i j : Nat) (hi : i < n) (hj : j < n) :
    Calls Try.prog 73 #[v, .int .i64 i, .int .i64 j] w fun e w' => e = .returned (.bool ((a i).less (a j))) ∧ Grow w w' := by
  obtain ⟨r, c, rfl, hr, hnc, i0, i1, i2, _⟩ := h.get i hi
  obtain ⟨r2, c2, hv, _, _, j0, j1, j2, _⟩ := h.get j hj
  injection hv with hv1 hv2 hv3
  injection hv1 with hv1
  injection hv1 with hv1
  subst hv1
  subst hv3
  have i0' : w.drew.cell? ⟨r, i, none⟩ = some (.pointer (some ⟨(a i).b, 0, none⟩)) := by simpa using i0
  have i1' : w.drew.cell? ⟨(a i).b, 0, none⟩ = some (.int .i64 (a i).k) := by simpa using i1
  have i2' : w.drew.cell? ⟨(a i).b, 1, none⟩ = some (.int .i64 (a i).t) := by simpa using i2
  have j0' : w.drew.cell? ⟨r, j, none⟩ = some (.pointer (some ⟨(a j).b, 0, none⟩)) := by simpa using j0
  have j1' : w.drew.cell? ⟨(a j).b, 0, none⟩ = some (.int .i64 (a j).k) := by simpa using j1
  have j2' : w.drew.cell? ⟨(a j).b, 1, none⟩ = some (.int .i64 (a j).t) := by simpa using j2
  clear h i0 i1 i2 j0 j1 j2
  have hl := less_cmp (a i) (a j)
  generalize hz : (if cmpI (a i).t (a j).t = 0 then cmpI (a i).k (a j).k else cmpI (a i).t (a j).t) = z at hl
  have hi' : (i : Int) < n := by omega
  have hj' : (j : Int) < n := by omega
  go_enter Try.func73, Try.ntmps73
  go_wp2
  refine region_ord [0, 1, 2, 3, 4, 5, 6, 7, 8, 9, 10, 11, 12, 13, 15, 16, 17, 18, 19, 20, 21, 22, 23, 24, 25, 26, 27, 28, 14, 29, 30, 31, 32, 33] [14, 29, 30, 31, 33] [3, 6, 10, 13, 18, 21, 25, 28] [] rfl (by kernel_rfl) ?_
  iterate 3
    refine ord_pure rfl rfl rfl rfl rfl (fun _ _ _ _ h => h) ?_ ?_ ?_ ?_ ?_
    rotate_left 2
    · intro w'; go_simp; with_reducible rfl
    · simp only [Act.put, List.setIfInBounds_toArray, List.set_cons_zero, List.set_cons_succ]; rfl
  refine ord_read rfl rfl rfl rfl rfl (fun _ _ _ _ h => h) ?_ ?_ ?_ ?_ ?_
  rotate_left 2
  · intro w' hg; have q := hg.cell i0' (fun h => h); go_simp; with_reducible rfl
  · simp only [Act.put, List.setIfInBounds_toArray, List.set_cons_zero, List.set_cons_succ]; rfl
  iterate 2
    refine ord_pure rfl rfl rfl rfl rfl (fun _ _ _ _ h => h) ?_ ?_ ?_ ?_ ?_
    rotate_left 2
    · intro w'; go_simp; with_reducible rfl
    · simp only [Act.put, List.setIfInBounds_toArray, List.set_cons_zero, List.set_cons_succ]; rfl
  refine ord_read rfl rfl rfl rfl rfl (fun _ _ _ _ h => h) ?_ ?_ ?_ ?_ ?_
  rotate_left 2
  · intro w' hg; have q := hg.cell i2' (fun h => h); go_simp; with_reducible rfl
  · simp only [Act.put, List.setIfInBounds_toArray, List.set_cons_zero, List.set_cons_succ]; rfl
  iterate 3
    refine ord_pure rfl rfl rfl rfl rfl (fun _ _ _ _ h => h) ?_ ?_ ?_ ?_ ?_
    rotate_left 2
    · intro w'; go_simp; with_reducible rfl
    · simp only [Act.put, List.setIfInBounds_toArray, List.set_cons_zero, List.set_cons_succ]; rfl
  refine ord_read rfl rfl rfl rfl rfl (fun _ _ _ _ h => h) ?_ ?_ ?_ ?_ ?_
  rotate_left 2
  · intro w' hg; have q := hg.cell j0' (fun h => h); go_simp; with_reducible rfl
  · simp only [Act.put, List.setIfInBounds_toArray, List.set_cons_zero, List.set_cons_succ]; rfl
  iterate 2
    refine ord_pure rfl rfl rfl rfl rfl (fun _ _ _ _ h => h) ?_ ?_ ?_ ?_ ?_
    rotate_left 2
    · intro w'; go_simp; with_reducible rfl
    · simp only [Act.put, List.setIfInBounds_toArray, List.set_cons_zero, List.set_cons_succ]; rfl
  refine ord_read rfl rfl rfl rfl rfl (fun _ _ _ _ h => h) ?_ ?_ ?_ ?_ ?_
  rotate_left 2
  · intro w' hg; have q := hg.cell j2' (fun h => h); go_simp; with_reducible rfl
  · simp only [Act.put, List.setIfInBounds_toArray, List.set_cons_zero, List.set_cons_succ]; rfl
  iterate 3
    refine ord_pure rfl rfl rfl rfl rfl (fun _ _ _ _ h => h) ?_ ?_ ?_ ?_ ?_
    rotate_left 2
    · intro w'; go_simp; with_reducible rfl
    · simp only [Act.put, List.setIfInBounds_toArray, List.set_cons_zero, List.set_cons_succ]; rfl
  refine ord_read rfl rfl rfl rfl rfl (fun _ _ _ _ h => h) ?_ ?_ ?_ ?_ ?_
  rotate_left 2
  · intro w' hg; have q := hg.cell i0' (fun h => h); go_simp; with_reducible rfl
  · simp only [Act.put, List.setIfInBounds_toArray, List.set_cons_zero, List.set_cons_succ]; rfl
  iterate 2
    refine ord_pure rfl rfl rfl rfl rfl (fun _ _ _ _ h => h) ?_ ?_ ?_ ?_ ?_
    rotate_left 2
    · intro w'; go_simp; with_reducible rfl
    · simp only [Act.put, List.setIfInBounds_toArray, List.set_cons_zero, List.set_cons_succ]; rfl
  refine ord_read rfl rfl rfl rfl rfl (fun _ _ _ _ h => h) ?_ ?_ ?_ ?_ ?_
  rotate_left 2
  · intro w' hg; have q := hg.cell i1' (fun h => h); go_simp; with_reducible rfl
  · simp only [Act.put, List.setIfInBounds_toArray, List.set_cons_zero, List.set_cons_succ]; rfl
  iterate 3
    refine ord_pure rfl rfl rfl rfl rfl (fun _ _ _ _ h => h) ?_ ?_ ?_ ?_ ?_
    rotate_left 2
    · intro w'; go_simp; with_reducible rfl
    · simp only [Act.put, List.setIfInBounds_toArray, List.set_cons_zero, List.set_cons_succ]; rfl
  refine ord_read rfl rfl rfl rfl rfl (fun _ _ _ _ h => h) ?_ ?_ ?_ ?_ ?_
  rotate_left 2
  · intro w' hg; have q := hg.cell j0' (fun h => h); go_simp; with_reducible rfl
  · simp only [Act.put, List.setIfInBounds_toArray, List.set_cons_zero, List.set_cons_succ]; rfl
  iterate 2
    refine ord_pure rfl rfl rfl rfl rfl (fun _ _ _ _ h => h) ?_ ?_ ?_ ?_ ?_
    rotate_left 2
    · intro w'; go_simp; with_reducible rfl
    · simp only [Act.put, List.setIfInBounds_toArray, List.set_cons_zero, List.set_cons_succ]; rfl
  refine ord_read rfl rfl rfl rfl rfl (fun _ _ _ _ h => h) ?_ ?_ ?_ ?_ ?_
  rotate_left 2
  · intro w' hg; have q := hg.cell j1' (fun h => h); go_simp; with_reducible rfl
  · simp only [Act.put, List.setIfInBounds_toArray, List.set_cons_zero, List.set_cons_succ]; rfl
  refine ord_call rfl rfl rfl rfl rfl Try.func76 rfl rfl [.int .i64 (a i).t, .int .i64 (a j).t] rfl ?_
  refine (cmp_calls _ _ _).mono ?_
  rintro e w' ⟨rfl, rfl⟩
  refine ⟨_, rfl, fun _ => Keep.refl _ _, ?_⟩
  simp only [Act.put, List.setIfInBounds_toArray, List.set_cons_zero, List.set_cons_succ]
  refine ord_call rfl rfl rfl rfl rfl Try.func76 rfl rfl [.int .i64 (a i).k, .int .i64 (a j).k] rfl ?_
  refine (cmp_calls _ _ _).mono ?_
  rintro e w' ⟨rfl, rfl⟩
  refine ⟨_, rfl, fun _ => Keep.refl _ _, ?_⟩
  simp only [Act.put, List.setIfInBounds_toArray, List.set_cons_zero, List.set_cons_succ]
  refine ord_new rfl rfl rfl rfl ?_ ?_ ?_ ?_ ?_ ?_
  rotate_left 3
  · go_simp; first | with_reducible rfl | (constructor <;> with_reducible rfl)
  · simp only [Act.put, List.setIfInBounds_toArray, List.set_cons_zero, List.set_cons_succ]; rfl
  refine ord_call rfl rfl rfl rfl rfl Try.func75 rfl rfl [.slice (some ⟨w.heap.size, 0, none⟩) 2 2] rfl ?_
  refine (or_calls (cmpI (a i).t (a j).t) (cmpI (a i).k (a j).k) z hz w.heap.size _ (World.news_of_block (heap_alloc_new w.drew (.cells #[.int .i64 (cmpI (a i).t (a j).t), .int .i64 (cmpI (a i).k (a j).k)] 3)) 0 _ rfl) (World.news_of_block (heap_alloc_new w.drew (.cells #[.int .i64 (cmpI (a i).t (a j).t), .int .i64 (cmpI (a i).k (a j).k)] 3)) 1 _ rfl)).mono ?_
  rintro e w' ⟨rfl, rfl⟩
  refine ⟨_, rfl, fun _ => Keep.refl _ _, ?_⟩
  simp only [Act.put, List.setIfInBounds_toArray, List.set_cons_zero, List.set_cons_succ]
  refine ord_pure rfl rfl rfl rfl rfl (fun _ _ _ _ h => h) ?_ ?_ ?_ ?_ ?_
  rotate_left 2
  · intro w'; go_simp; with_reducible rfl
  · simp only [Act.put, List.setIfInBounds_toArray, List.set_cons_zero, List.set_cons_succ]; rfl
  refine ord_set rfl rfl rfl rfl ?_ ?_ ?_ ?_ ?_
  rotate_left 2
  · go_simp; with_reducible rfl
  · simp only [Act.put, List.setIfInBounds_toArray, List.set_cons_zero, List.set_cons_succ]; rfl
  refine ord_nil ?_
  go_wp2
  go_ret
  exact ⟨rfl, (Keep.refl _ _).drew.alloc _⟩
theorem len_calls2 (A : Option Addr) (n c : Nat) (w : World) : Calls Try.prog 72 #[.slice A n c] w fun e w' => e = .returned (.int .i64 n) ∧ w = w' := by
  go_enter Try.func72, Try.ntmps72
  go_wp2
  go_ret
  exact ⟨rfl, rfl⟩
end Go.Proofs.Ytimpnbkincgbmaa
