import Derived.Test.YtfkcpaahdlkcdaaGreatM11
import Derived.Test.YtfkcpaahdlkcdaaGreatProg
import Derived.LoopTactic
/-! Joined: TmA, TmB, TmC, TmH, TmI. -/
/-! The timer's heap: order, and the methods behind the interface. -/
set_option linter.unusedSimpArgs false
set_option linter.unusedVariables false
namespace Go.Proofs.YtfkcpaahdlkcdaaGreat
open Go.RowKit

def cmpI (x y : Int) : Int := if x < y then -1 else if y < x then 1 else 0
theorem nan_calls (x : Int) (w : World) : Calls Tryz.prog 310 #[.int .i64 x] w fun e w' => e = .returned (.bool false) ∧ w = w' := by
  go_enter Tryz.func310, Tryz.ntmps310
  go_wp2
  go_ret
  exact ⟨by simp, rfl⟩
theorem cmp_calls (x y : Int) (w : World) : Calls Tryz.prog 309 #[.int .i64 x, .int .i64 y] w fun e w' => e = .returned (.int .i64 (cmpI x y)) ∧ w = w' := by
  by_cases h1 : x < y
  · rw [show cmpI x y = -1 from by simp [cmpI, h1]]
    go_enter Tryz.func309, Tryz.ntmps309
    go_wp2_with fail
    refine (nan_calls x w).mono ?_
    rintro e w' ⟨rfl, rfl⟩
    go_wp2_with fail
    refine (nan_calls y w).mono ?_
    rintro e w' ⟨rfl, rfl⟩
    go_wp2
    go_ret
    exact ⟨rfl, rfl⟩
  by_cases h2 : y < x
  · rw [show cmpI x y = 1 from by simp [cmpI, h1, h2]]
    go_enter Tryz.func309, Tryz.ntmps309
    go_wp2_with fail
    refine (nan_calls x w).mono ?_
    rintro e w' ⟨rfl, rfl⟩
    go_wp2_with fail
    refine (nan_calls y w).mono ?_
    rintro e w' ⟨rfl, rfl⟩
    go_wp2
    go_ret
    exact ⟨rfl, rfl⟩
  · rw [show cmpI x y = 0 from by simp [cmpI, h1, h2]]
    go_enter Tryz.func309, Tryz.ntmps309
    go_wp2_with fail
    refine (nan_calls x w).mono ?_
    rintro e w' ⟨rfl, rfl⟩
    go_wp2_with fail
    refine (nan_calls y w).mono ?_
    rintro e w' ⟨rfl, rfl⟩
    go_wp2
    go_ret
    exact ⟨rfl, rfl⟩
theorem or_calls (x y z : Int) (hz : (if x = 0 then y else x) = z) (g : Nat) (w : World) (h0 : w.cell? ⟨g, 0, none⟩ = some (.int .i64 x)) (h1 : w.cell? ⟨g, 1, none⟩ = some (.int .i64 y)) :
    Calls Tryz.prog 308 #[.slice (some ⟨g, 0, none⟩) 2 2] w fun e w' => e = .returned (.int .i64 z) ∧ w = w' := by
  subst hz
  by_cases hx : x = 0
  · by_cases hy : y = 0
    · subst hx
      subst hy
      go_enter Tryz.func308, Tryz.ntmps308
      go_wp2
      go_loopw [8] (fun v wr => wr = w ∧ ∃ k : Nat, k ≤ 2 ∧ v = .int .i64 k) (fun v _ => 2 - (intOf v).toNat)
      case atStart => exact ⟨rfl, 0, by omega, rfl⟩
      case round =>
        obtain ⟨rfl, k, hk, rfl⟩ := hrel
        match k, hk with
        | 0, _ =>
          go_wp2
          go_roundw
          case rel => exact ⟨trivial, 1, by omega, by go_num⟩
          case measure => simp [intOf]
        | 1, _ =>
          go_wp2
          go_roundw
          case rel => exact ⟨trivial, 2, by omega, by go_num⟩
          case measure => simp [intOf]
        | 2, _ =>
          go_wp2
          go_ret
          exact ⟨rfl, rfl⟩
    · subst hx
      rw [show (if (0 : Int) = 0 then y else 0) = y from by simp]
      have hy' : (y == 0) = false := beq_eq_false_iff_ne.2 hy
      clear hy
      go_enter Tryz.func308, Tryz.ntmps308
      go_wp2
      go_loopw [8] (fun v wr => wr = w ∧ ∃ k : Nat, k ≤ 1 ∧ v = .int .i64 k) (fun v _ => 2 - (intOf v).toNat)
      case atStart => exact ⟨rfl, 0, by omega, rfl⟩
      case round =>
        obtain ⟨rfl, k, hk, rfl⟩ := hrel
        match k, hk with
        | 0, _ =>
          go_wp2
          go_roundw
          case rel => exact ⟨trivial, 1, by omega, by go_num⟩
          case measure => simp [intOf]
        | 1, _ =>
          go_wp2
          go_ret
          exact ⟨rfl, rfl⟩
  · rw [show (if x = 0 then y else x) = x from by simp [hx]]
    have hx' : (x == 0) = false := beq_eq_false_iff_ne.2 hx
    clear hx
    go_enter Tryz.func308, Tryz.ntmps308
    go_wp2
    go_loopw [8] (fun v wr => wr = w ∧ v = .int .i64 0) (fun v _ => 2 - (intOf v).toNat)
    case atStart => exact ⟨rfl, rfl⟩
    case round =>
      obtain ⟨rfl, rfl⟩ := hrel
      go_wp2
      go_ret
      exact ⟨rfl, rfl⟩

/-- An item: its block, key, time. -/
structure It where
  b : Nat
  k : Int
  t : Int
def It.less (x y : It) : Bool := decide (x.t < y.t ∨ x.t = y.t ∧ x.k < y.k)
theorem less_cmp (x y : It) : decide ((if cmpI x.t y.t = 0 then cmpI x.k y.k else cmpI x.t y.t) < 0) = x.less y := by
  unfold It.less cmpI
  rw [decide_eq_decide]
  by_cases h1 : x.t < y.t <;> by_cases h2 : y.t < x.t <;> by_cases h3 : x.k < y.k <;> by_cases h4 : y.k < x.k <;> simp [h1, h2, h3, h4] <;> omega

theorem info_ip : (Tryz.prog.info? 227).map (fun i => (i.zero, i.size, i.bytes)) = some (some (.pointer none), 1, 8) := by kernel_rfl
theorem u_ips : Tryz.prog.underlying 210 = some (.slice 227) := by kernel_rfl
theorem u_ipl : Tryz.prog.underlying 209 = some (.slice 227) := by kernel_rfl

def ptrs (n : Nat) (a : Nat → It) : List Value := (List.range n).map fun i => .pointer (some ⟨(a i).b, 0, none⟩)
theorem ptrs_get {n i : Nat} {a : Nat → It} (h : i < n) : (ptrs n a)[i]? = some (.pointer (some ⟨(a i).b, 0, none⟩)) := by simp [ptrs, h]
theorem ptrs_length (n : Nat) (a : Nat → It) : (ptrs n a).length = n := by simp [ptrs]
/-- The heap's array of the queue at q. -/
structure Arr (q n : Nat) (a : Nat → It) (v mv : Value) (F : Nat → Prop) (w : World) : Prop where
  cell : w.heap[q]? = some (.cells #[v, mv] 212 (0, 0))
  row : w.ownsRow 0 227 1 v n (ptrs n a)
  item : ∀ i, i < n → w.heap[(a i).b]? = some (.cells #[.int .i64 (a i).k, .int .i64 (a i).t, .int .i64 i] 229 (0, 0))
  inj : ∀ i j, i < n → j < n → (a i).b = (a j).b → i = j
  few : n ≤ 1000
  fq : F q
  frow : ∀ k, v.ownBlock = some k → F k ∧ k ≠ q
  fit : ∀ i, i < n → F (a i).b ∧ (a i).b ≠ q ∧ v.ownBlock ≠ some (a i).b
  lt : ∀ k, F k → k < w.heap.size
theorem Arr.keep {q n : Nat} {a : Nat → It} {v mv : Value} {F S : Nat → Prop} {w w' : World} (h : Arr q n a v mv F w) (hk : Keep S w w') (hd : ∀ k, F k → ¬ S k) : Arr q n a v mv F w' :=
  ⟨(hk.block q (h.lt q h.fq) (hd q h.fq)).trans h.cell, own_keep h.row hk (fun k hv => hd k (h.frow k hv).1), fun i hi => (hk.block _ (h.lt _ (h.fit i hi).1) (hd _ (h.fit i hi).1)).trans (h.item i hi), h.inj, h.few, h.fq, h.frow, h.fit, fun k hF => Nat.lt_of_lt_of_le (h.lt k hF) hk.size⟩
theorem Arr.grow {q n : Nat} {a : Nat → It} {v mv : Value} {F : Nat → Prop} {w w' : World} (h : Arr q n a v mv F w) (hk : Grow w w') : Arr q n a v mv F w' := h.keep hk (fun _ _ h => h)
theorem Arr.slice {q n : Nat} {a : Nat → It} {v mv : Value} {F : Nat → Prop} {w : World} (h : Arr q n a v mv F w) : ∃ A c, v = .slice A n c := by
  obtain ⟨A, c, e, _⟩ := own_slice h.row
  exact ⟨A, c, e⟩
/-- What one reads at an index. -/
theorem Arr.get {q n : Nat} {a : Nat → It} {v mv : Value} {F : Nat → Prop} {w : World} (h : Arr q n a v mv F w) (i : Nat) (hi : i < n) :
    ∃ r c, v = .slice (some ⟨r, 0, none⟩) n c ∧ v.ownBlock = some r ∧ n ≤ c ∧ w.cell? ⟨r, i, none⟩ = some (.pointer (some ⟨(a i).b, 0, none⟩)) ∧
      w.cell? ⟨(a i).b, 0, none⟩ = some (.int .i64 (a i).k) ∧ w.cell? ⟨(a i).b, 1, none⟩ = some (.int .i64 (a i).t) ∧ w.cell? ⟨(a i).b, 2, none⟩ = some (.int .i64 i) := by
  have hrow := h.row
  obtain ⟨r, c, hv, hr, hc, hcs⟩ := own_cells hrow (by omega)
  have := hcs i _ (ptrs_get hi)
  have hit := h.item i hi
  exact ⟨r, c, hv, hr, hc, by simpa using this, by rw [cell_of_row w _ 0 _ _ _ hit]; rfl, by rw [cell_of_row w _ 1 _ _ _ hit]; rfl, by rw [cell_of_row w _ 2 _ _ _ hit]; rfl⟩

set_option maxRecDepth 100000 in
theorem less_calls (q n : Nat) (a : Nat → It) (v mv : Value) (F : Nat → Prop) (w : World) (h : Arr q n a v mv F w) (i j : Nat) (hi : i < n) (hj : j < n) :
    Calls Tryz.prog 306 #[v, .int .i64 i, .int .i64 j] w fun e w' => e = .returned (.bool ((a i).less (a j))) ∧ Grow w w' := by
  obtain ⟨r, c, rfl, hr, hnc, i0, i1, i2, _⟩ := h.get i hi
  obtain ⟨r2, c2, hv, _, _, j0, j1, j2, _⟩ := h.get j hj
  injection hv with hv1 hv2 hv3
  injection hv1 with hv1
  injection hv1 with hv1
  subst hv1
  subst hv3
  have i0' : w.drew.cell? ⟨r, i, none⟩ = some (.pointer (some ⟨(a i).b, 0, none⟩)) := by simpa using i0
  have i1' : w.drew.cell? ⟨(a i).b, 0, none⟩ = some (.int .i64 (a i).k) := by simpa using i1
  have i2' : w.drew.cell? ⟨(a i).b, 1, none⟩ = some (.int .i64 (a i).t) := by simpa using i2
  have j0' : w.drew.cell? ⟨r, j, none⟩ = some (.pointer (some ⟨(a j).b, 0, none⟩)) := by simpa using j0
  have j1' : w.drew.cell? ⟨(a j).b, 0, none⟩ = some (.int .i64 (a j).k) := by simpa using j1
  have j2' : w.drew.cell? ⟨(a j).b, 1, none⟩ = some (.int .i64 (a j).t) := by simpa using j2
  clear h i0 i1 i2 j0 j1 j2
  have hl := less_cmp (a i) (a j)
  generalize hz : (if cmpI (a i).t (a j).t = 0 then cmpI (a i).k (a j).k else cmpI (a i).t (a j).t) = z at hl
  have hi' : (i : Int) < n := by omega
  have hj' : (j : Int) < n := by omega
  go_enter Tryz.func306, Tryz.ntmps306
  go_wp2
  refine region_ord [0, 1, 2, 3, 4, 5, 6, 7, 8, 9, 10, 11, 12, 13, 15, 16, 17, 18, 19, 20, 21, 22, 23, 24, 25, 26, 27, 28, 14, 29, 30, 31, 32, 33] [14, 29, 30, 31, 33] [3, 6, 10, 13, 18, 21, 25, 28] [] rfl (by kernel_rfl) ?_
  iterate 3
    refine ord_pure rfl rfl rfl rfl rfl (fun _ _ _ _ h => h) ?_ ?_ ?_ ?_ ?_
    rotate_left 2
    · intro w'; go_simp; with_reducible rfl
    · simp only [Act.put, List.setIfInBounds_toArray, List.set_cons_zero, List.set_cons_succ]; rfl
  refine ord_read rfl rfl rfl rfl rfl (fun _ _ _ _ h => h) ?_ ?_ ?_ ?_ ?_
  rotate_left 2
  · intro w' hg; have q := hg.cell i0' (fun h => h); go_simp; with_reducible rfl
  · simp only [Act.put, List.setIfInBounds_toArray, List.set_cons_zero, List.set_cons_succ]; rfl
  iterate 2
    refine ord_pure rfl rfl rfl rfl rfl (fun _ _ _ _ h => h) ?_ ?_ ?_ ?_ ?_
    rotate_left 2
    · intro w'; go_simp; with_reducible rfl
    · simp only [Act.put, List.setIfInBounds_toArray, List.set_cons_zero, List.set_cons_succ]; rfl
  refine ord_read rfl rfl rfl rfl rfl (fun _ _ _ _ h => h) ?_ ?_ ?_ ?_ ?_
  rotate_left 2
  · intro w' hg; have q := hg.cell i2' (fun h => h); go_simp; with_reducible rfl
  · simp only [Act.put, List.setIfInBounds_toArray, List.set_cons_zero, List.set_cons_succ]; rfl
  iterate 3
    refine ord_pure rfl rfl rfl rfl rfl (fun _ _ _ _ h => h) ?_ ?_ ?_ ?_ ?_
    rotate_left 2
    · intro w'; go_simp; with_reducible rfl
    · simp only [Act.put, List.setIfInBounds_toArray, List.set_cons_zero, List.set_cons_succ]; rfl
  refine ord_read rfl rfl rfl rfl rfl (fun _ _ _ _ h => h) ?_ ?_ ?_ ?_ ?_
  rotate_left 2
  · intro w' hg; have q := hg.cell j0' (fun h => h); go_simp; with_reducible rfl
  · simp only [Act.put, List.setIfInBounds_toArray, List.set_cons_zero, List.set_cons_succ]; rfl
  iterate 2
    refine ord_pure rfl rfl rfl rfl rfl (fun _ _ _ _ h => h) ?_ ?_ ?_ ?_ ?_
    rotate_left 2
    · intro w'; go_simp; with_reducible rfl
    · simp only [Act.put, List.setIfInBounds_toArray, List.set_cons_zero, List.set_cons_succ]; rfl
  refine ord_read rfl rfl rfl rfl rfl (fun _ _ _ _ h => h) ?_ ?_ ?_ ?_ ?_
  rotate_left 2
  · intro w' hg; have q := hg.cell j2' (fun h => h); go_simp; with_reducible rfl
  · simp only [Act.put, List.setIfInBounds_toArray, List.set_cons_zero, List.set_cons_succ]; rfl
  iterate 3
    refine ord_pure rfl rfl rfl rfl rfl (fun _ _ _ _ h => h) ?_ ?_ ?_ ?_ ?_
    rotate_left 2
    · intro w'; go_simp; with_reducible rfl
    · simp only [Act.put, List.setIfInBounds_toArray, List.set_cons_zero, List.set_cons_succ]; rfl
  refine ord_read rfl rfl rfl rfl rfl (fun _ _ _ _ h => h) ?_ ?_ ?_ ?_ ?_
  rotate_left 2
  · intro w' hg; have q := hg.cell i0' (fun h => h); go_simp; with_reducible rfl
  · simp only [Act.put, List.setIfInBounds_toArray, List.set_cons_zero, List.set_cons_succ]; rfl
  iterate 2
    refine ord_pure rfl rfl rfl rfl rfl (fun _ _ _ _ h => h) ?_ ?_ ?_ ?_ ?_
    rotate_left 2
    · intro w'; go_simp; with_reducible rfl
    · simp only [Act.put, List.setIfInBounds_toArray, List.set_cons_zero, List.set_cons_succ]; rfl
  refine ord_read rfl rfl rfl rfl rfl (fun _ _ _ _ h => h) ?_ ?_ ?_ ?_ ?_
  rotate_left 2
  · intro w' hg; have q := hg.cell i1' (fun h => h); go_simp; with_reducible rfl
  · simp only [Act.put, List.setIfInBounds_toArray, List.set_cons_zero, List.set_cons_succ]; rfl
  iterate 3
    refine ord_pure rfl rfl rfl rfl rfl (fun _ _ _ _ h => h) ?_ ?_ ?_ ?_ ?_
    rotate_left 2
    · intro w'; go_simp; with_reducible rfl
    · simp only [Act.put, List.setIfInBounds_toArray, List.set_cons_zero, List.set_cons_succ]; rfl
  refine ord_read rfl rfl rfl rfl rfl (fun _ _ _ _ h => h) ?_ ?_ ?_ ?_ ?_
  rotate_left 2
  · intro w' hg; have q := hg.cell j0' (fun h => h); go_simp; with_reducible rfl
  · simp only [Act.put, List.setIfInBounds_toArray, List.set_cons_zero, List.set_cons_succ]; rfl
  iterate 2
    refine ord_pure rfl rfl rfl rfl rfl (fun _ _ _ _ h => h) ?_ ?_ ?_ ?_ ?_
    rotate_left 2
    · intro w'; go_simp; with_reducible rfl
    · simp only [Act.put, List.setIfInBounds_toArray, List.set_cons_zero, List.set_cons_succ]; rfl
  refine ord_read rfl rfl rfl rfl rfl (fun _ _ _ _ h => h) ?_ ?_ ?_ ?_ ?_
  rotate_left 2
  · intro w' hg; have q := hg.cell j1' (fun h => h); go_simp; with_reducible rfl
  · simp only [Act.put, List.setIfInBounds_toArray, List.set_cons_zero, List.set_cons_succ]; rfl
  refine ord_call rfl rfl rfl rfl rfl Tryz.func309 rfl rfl [.int .i64 (a i).t, .int .i64 (a j).t] rfl ?_
  refine (cmp_calls _ _ _).mono ?_
  rintro e w' ⟨rfl, rfl⟩
  refine ⟨_, rfl, fun _ => Keep.refl _ _, ?_⟩
  simp only [Act.put, List.setIfInBounds_toArray, List.set_cons_zero, List.set_cons_succ]
  refine ord_call rfl rfl rfl rfl rfl Tryz.func309 rfl rfl [.int .i64 (a i).k, .int .i64 (a j).k] rfl ?_
  refine (cmp_calls _ _ _).mono ?_
  rintro e w' ⟨rfl, rfl⟩
  refine ⟨_, rfl, fun _ => Keep.refl _ _, ?_⟩
  simp only [Act.put, List.setIfInBounds_toArray, List.set_cons_zero, List.set_cons_succ]
  refine ord_new rfl rfl rfl rfl ?_ ?_ ?_ ?_ ?_ ?_
  rotate_left 3
  · go_simp; first | with_reducible rfl | (constructor <;> with_reducible rfl)
  · simp only [Act.put, List.setIfInBounds_toArray, List.set_cons_zero, List.set_cons_succ]; rfl
  refine ord_call rfl rfl rfl rfl rfl Tryz.func308 rfl rfl [.slice (some ⟨w.heap.size, 0, none⟩) 2 2] rfl ?_
  refine (or_calls (cmpI (a i).t (a j).t) (cmpI (a i).k (a j).k) z hz w.heap.size _ (World.news_of_block (heap_alloc_new w.drew (.cells #[.int .i64 (cmpI (a i).t (a j).t), .int .i64 (cmpI (a i).k (a j).k)] 3)) 0 _ rfl) (World.news_of_block (heap_alloc_new w.drew (.cells #[.int .i64 (cmpI (a i).t (a j).t), .int .i64 (cmpI (a i).k (a j).k)] 3)) 1 _ rfl)).mono ?_
  rintro e w' ⟨rfl, rfl⟩
  refine ⟨_, rfl, fun _ => Keep.refl _ _, ?_⟩
  simp only [Act.put, List.setIfInBounds_toArray, List.set_cons_zero, List.set_cons_succ]
  refine ord_pure rfl rfl rfl rfl rfl (fun _ _ _ _ h => h) ?_ ?_ ?_ ?_ ?_
  rotate_left 2
  · intro w'; go_simp; with_reducible rfl
  · simp only [Act.put, List.setIfInBounds_toArray, List.set_cons_zero, List.set_cons_succ]; rfl
  refine ord_set rfl rfl rfl rfl ?_ ?_ ?_ ?_ ?_
  rotate_left 2
  · go_simp; with_reducible rfl
  · simp only [Act.put, List.setIfInBounds_toArray, List.set_cons_zero, List.set_cons_succ]; rfl
  refine ord_nil ?_
  go_wp2
  go_ret
  exact ⟨rfl, (Keep.refl _ _).drew.alloc _⟩
theorem len_calls2 (A : Option Addr) (n c : Nat) (w : World) : Calls Tryz.prog 305 #[.slice A n c] w fun e w' => e = .returned (.int .i64 n) ∧ w = w' := by
  go_enter Tryz.func305, Tryz.ntmps305
  go_wp2
  go_ret
  exact ⟨rfl, rfl⟩
end Go.Proofs.YtfkcpaahdlkcdaaGreat
set_option linter.unusedSimpArgs false
set_option linter.unusedVariables false
namespace Go.Proofs.YtfkcpaahdlkcdaaGreat
open Go.RowKit

def swp (a : Nat → It) (i j k : Nat) : It := if k = i then a j else if k = j then a i else a k
theorem ptrs_set2 {n i j : Nat} {a : Nat → It} (hi : i < n) (hj : j < n) (hij : i ≠ j) : ((ptrs n a).set i (.pointer (some ⟨(a j).b, 0, none⟩))).set j (.pointer (some ⟨(a i).b, 0, none⟩)) = ptrs n (swp a i j) := by
  apply List.ext_getElem?
  intro k
  rw [List.getElem?_set, List.getElem?_set]
  by_cases hk : k < n
  · rw [ptrs_get (a := swp a i j) hk]
    by_cases h1 : j = k
    · subst h1
      simp [ptrs_length, hj, swp, Ne.symm hij]
    · by_cases h2 : i = k
      · subst h2
        simp [ptrs_length, hi, swp, h1]
      · simp [h1, h2, ptrs_get hk, swp, Ne.symm h1, Ne.symm h2]
  · have e : (ptrs n (swp a i j))[k]? = none := List.getElem?_eq_none (by rw [ptrs_length]; omega)
    have e2 : (ptrs n a)[k]? = none := List.getElem?_eq_none (by rw [ptrs_length]; omega)
    rw [if_neg (by omega), if_neg (by omega), e, e2]
theorem heap_setCell3 {w : World} {g T : Nat} {x y z : Value} (u : Value) (h : w.heap[g]? = some (.cells #[x, y, z] T (0, 0))) : (w.setCell ⟨g, 2, none⟩ u).heap[g]? = some (.cells #[x, y, u] T (0, 0)) := by
  simp only [World.setCell, Array.getElem?_modify]
  simp [h]
theorem setCell_other {w : World} {g : Nat} {p : Addr} (u : Value) (h : g ≠ p.block) : (w.setCell p u).heap[g]? = w.heap[g]? := RowKit.Below.heap_setCell _ _ _ _ h

/-- What Swap leaves. -/
theorem Arr.swapped {q n : Nat} {a : Nat → It} {r c : Nat} {mv : Value} {F : Nat → Prop} {w : World} (h : Arr q n a (.slice (some ⟨r, 0, none⟩) n c) mv F w) {i j : Nat} (hi : i < n) (hj : j < n) (hij : i ≠ j) :
    Arr q n (swp a i j) (.slice (some ⟨r, 0, none⟩) n c) mv F ((((w.setCell ⟨r, i, none⟩ (.pointer (some ⟨(a j).b, 0, none⟩))).setCell ⟨r, j, none⟩ (.pointer (some ⟨(a i).b, 0, none⟩))).setCell ⟨(a j).b, 2, none⟩ (.int .i64 i)).setCell ⟨(a i).b, 2, none⟩ (.int .i64 j)) ∧
    Keep F w ((((w.setCell ⟨r, i, none⟩ (.pointer (some ⟨(a j).b, 0, none⟩))).setCell ⟨r, j, none⟩ (.pointer (some ⟨(a i).b, 0, none⟩))).setCell ⟨(a j).b, 2, none⟩ (.int .i64 i)).setCell ⟨(a i).b, 2, none⟩ (.int .i64 j)) := by
  have hr := h.frow r rfl
  have hfi := h.fit i hi
  have hfj := h.fit j hj
  have hri : r ≠ (a i).b := fun e => hfi.2.2 (by rw [← e]; rfl)
  have hrj : r ≠ (a j).b := fun e => hfj.2.2 (by rw [← e]; rfl)
  have hne : (a i).b ≠ (a j).b := fun e => hij (h.inj i j hi hj e)
  have o1 := (h.row.stored i (.pointer (some ⟨(a j).b, 0, none⟩))).1
  have o2 := (o1.stored j (.pointer (some ⟨(a i).b, 0, none⟩))).1
  rw [ptrs_set2 hi hj hij] at o2
  have k1 : Keep F w ((w.setCell ⟨r, i, none⟩ (.pointer (some ⟨(a j).b, 0, none⟩))).setCell ⟨r, j, none⟩ (.pointer (some ⟨(a i).b, 0, none⟩))) := ((Keep.refl F w).setCell (p := ⟨r, i, none⟩) (.inl hr.1) _).setCell (p := ⟨r, j, none⟩) (.inl hr.1) _
  have ho : ∀ g, g ≠ r → ((w.setCell ⟨r, i, none⟩ (.pointer (some ⟨(a j).b, 0, none⟩))).setCell ⟨r, j, none⟩ (.pointer (some ⟨(a i).b, 0, none⟩))).heap[g]? = w.heap[g]? := fun g hg => (setCell_other (p := ⟨r, j, none⟩) _ hg).trans (setCell_other (p := ⟨r, i, none⟩) _ hg)
  generalize (w.setCell ⟨r, i, none⟩ (.pointer (some ⟨(a j).b, 0, none⟩))).setCell ⟨r, j, none⟩ (.pointer (some ⟨(a i).b, 0, none⟩)) = w1 at *
  have k2 : Keep F w ((w1.setCell ⟨(a j).b, 2, none⟩ (.int .i64 i)).setCell ⟨(a i).b, 2, none⟩ (.int .i64 j)) := (k1.setCell (p := ⟨(a j).b, 2, none⟩) (.inl hfj.1) _).setCell (p := ⟨(a i).b, 2, none⟩) (.inl hfi.1) _
  have kk : Keep (fun k => k = (a j).b ∨ k = (a i).b) w1 ((w1.setCell ⟨(a j).b, 2, none⟩ (.int .i64 i)).setCell ⟨(a i).b, 2, none⟩ (.int .i64 j)) := ((Keep.refl _ w1).setCell (p := ⟨(a j).b, 2, none⟩) (.inl (.inl rfl)) _).setCell (p := ⟨(a i).b, 2, none⟩) (.inl (.inr rfl)) _
  have o3 := own_keep o2 kk (fun k hk => by
    have : r = k := by simpa [Value.ownBlock] using hk
    subst this
    exact fun h => h.elim hrj hri)
  have hit : ∀ k, k < n → ((w1.setCell ⟨(a j).b, 2, none⟩ (.int .i64 i)).setCell ⟨(a i).b, 2, none⟩ (.int .i64 j)).heap[(swp a i j k).b]? = some (.cells #[.int .i64 (swp a i j k).k, .int .i64 (swp a i j k).t, .int .i64 k] 229 (0, 0)) := by
    intro k hk
    by_cases h1 : k = i
    · subst h1
      rw [show swp a k j k = a j from by simp [swp]]
      rw [setCell_other (p := ⟨(a k).b, 2, none⟩) _ hne.symm]
      exact heap_setCell3 _ ((ho _ hrj.symm).trans (h.item j hj))
    · by_cases h2 : k = j
      · subst h2
        rw [show swp a i k k = a i from by simp [swp, h1]]
        refine heap_setCell3 (z := .int .i64 i) _ ?_
        rw [setCell_other (p := ⟨(a k).b, 2, none⟩) _ hne]
        exact (ho _ hri.symm).trans (h.item i hi)
      · rw [show swp a i j k = a k from by simp [swp, h1, h2]]
        have e1 : (a k).b ≠ (a i).b := fun e => h1 (h.inj k i hk hi e)
        have e2 : (a k).b ≠ (a j).b := fun e => h2 (h.inj k j hk hj e)
        rw [setCell_other (p := ⟨(a i).b, 2, none⟩) _ e1, setCell_other (p := ⟨(a j).b, 2, none⟩) _ e2]
        exact (ho _ (fun e => (h.fit k hk).2.2 (by rw [e]; rfl))).trans (h.item k hk)
  have hsw : ∀ k, k < n → ∃ m, m < n ∧ swp a i j k = a m ∧ (m = if k = i then j else if k = j then i else k) := by
    intro k hk
    unfold swp
    split
    · exact ⟨j, hj, rfl, rfl⟩
    · split
      · exact ⟨i, hi, rfl, rfl⟩
      · exact ⟨k, hk, rfl, rfl⟩
  refine ⟨⟨?_, o3, hit, ?_, h.few, h.fq, h.frow, ?_, fun k hk => Nat.lt_of_lt_of_le (h.lt k hk) k2.size⟩, k2⟩
  · rw [setCell_other (p := ⟨(a i).b, 2, none⟩) _ (Ne.symm hfi.2.1), setCell_other (p := ⟨(a j).b, 2, none⟩) _ (Ne.symm hfj.2.1)]
    exact (ho _ (Ne.symm hr.2)).trans h.cell
  · intro x y hx hy e
    obtain ⟨m1, hm1, e1, f1⟩ := hsw x hx
    obtain ⟨m2, hm2, e2, f2⟩ := hsw y hy
    rw [e1, e2] at e
    have := h.inj m1 m2 hm1 hm2 e
    rw [f1, f2] at this
    split at this <;> split at this <;> (try split at this) <;> (try split at this) <;> omega
  · intro x hx
    obtain ⟨m1, hm1, e1, f1⟩ := hsw x hx
    rw [e1]
    exact h.fit m1 hm1

/-- Half way through Swap. -/
theorem Arr.mid {q n : Nat} {a : Nat → It} {r c : Nat} {mv : Value} {F : Nat → Prop} {w w1 : World} (h : Arr q n a (.slice (some ⟨r, 0, none⟩) n c) mv F w) {i j : Nat} (hi : i < n) (hj : j < n) (hij : i ≠ j)
    (hw : (w.setCell ⟨r, i, none⟩ (.pointer (some ⟨(a j).b, 0, none⟩))).setCell ⟨r, j, none⟩ (.pointer (some ⟨(a i).b, 0, none⟩)) = w1) :
    w1.cell? ⟨r, i, none⟩ = some (.pointer (some ⟨(a j).b, 0, none⟩)) ∧ w1.cell? ⟨r, j, none⟩ = some (.pointer (some ⟨(a i).b, 0, none⟩)) ∧ w1.cell? ⟨(a i).b, 2, none⟩ = some (.int .i64 i) ∧ w1.cell? ⟨(a j).b, 2, none⟩ = some (.int .i64 j) ∧
      w1.frozen? ⟨(a i).b, 2, none⟩ = false ∧ w1.frozen? ⟨(a j).b, 2, none⟩ = false ∧ (a i).b ≠ (a j).b := by
  have hfi := h.fit i hi
  have hfj := h.fit j hj
  have hri : r ≠ (a i).b := fun e => hfi.2.2 (by rw [← e]; rfl)
  have hrj : r ≠ (a j).b := fun e => hfj.2.2 (by rw [← e]; rfl)
  have hne : (a i).b ≠ (a j).b := fun e => hij (h.inj i j hi hj e)
  have o1 := (h.row.stored i (.pointer (some ⟨(a j).b, 0, none⟩))).1
  have o2 := (o1.stored j (.pointer (some ⟨(a i).b, 0, none⟩))).1
  rw [hw, ptrs_set2 hi hj hij] at o2
  have ho : ∀ g, g ≠ r → w1.heap[g]? = w.heap[g]? := fun g hg => by
    rw [← hw]
    exact (setCell_other (p := ⟨r, j, none⟩) _ hg).trans (setCell_other (p := ⟨r, i, none⟩) _ hg)
  have b1 := (ho _ hri.symm).trans (h.item i hi)
  have b2 := (ho _ hrj.symm).trans (h.item j hj)
  obtain ⟨r2, c2, hv2, _, _, hcs2⟩ := own_cells o2 (by omega)
  injection hv2 with hv2
  injection hv2 with hv2
  injection hv2 with hv2
  subst hv2
  have g1 := hcs2 i _ (ptrs_get hi)
  have g2 := hcs2 j _ (ptrs_get hj)
  rw [show swp a i j i = a j from by simp [swp]] at g1
  rw [show swp a i j j = a i from by simp [swp, hij.symm]] at g2
  exact ⟨by simpa using g1, by simpa using g2, by rw [cell_of_row w1 _ 2 _ _ _ b1]; rfl, by rw [cell_of_row w1 _ 2 _ _ _ b2]; rfl, frozen0 2 b1, frozen0 2 b2, hne⟩

set_option maxRecDepth 100000 in
theorem swap_calls (q n : Nat) (a : Nat → It) (v mv : Value) (F : Nat → Prop) (w : World) (h : Arr q n a v mv F w) (i j : Nat) (hi : i < n) (hj : j < n) (hij : i ≠ j) :
    Calls Tryz.prog 307 #[v, .int .i64 i, .int .i64 j] w fun e w' => e = .returned (.tuple #[]) ∧ Arr q n (swp a i j) v mv F w' ∧ Keep F w w' := by
  obtain ⟨r, c, rfl, hr, hnc, i0, _, _, i2⟩ := h.get i hi
  obtain ⟨r2, c2, hv, _, _, j0, _, _, j2⟩ := h.get j hj
  injection hv with hv1 hv2 hv3
  injection hv1 with hv1
  injection hv1 with hv1
  subst hv1
  subst hv3
  have hd := h.grow ((Keep.refl NoB w).drew)
  have i0' : w.drew.cell? ⟨r, i, none⟩ = some (.pointer (some ⟨(a i).b, 0, none⟩)) := by simpa using i0
  have j0' : w.drew.cell? ⟨r, j, none⟩ = some (.pointer (some ⟨(a j).b, 0, none⟩)) := by simpa using j0
  have y0 : w.frozen? ⟨r, i, none⟩ = false := h.row.frozenAt _
  have y1 : w.frozen? ⟨r, j, none⟩ = false := h.row.frozenAt _
  have hji : j ≠ i := hij.symm
  have z0 : w.drew.frozen? ⟨r, i, none⟩ = false := hd.row.frozenAt _
  have o1 := (hd.row.stored i (.pointer (some ⟨(a j).b, 0, none⟩))).1
  have z1 : (w.drew.setCell ⟨r, i, none⟩ (.pointer (some ⟨(a j).b, 0, none⟩))).frozen? ⟨r, j, none⟩ = false := o1.frozenAt _
  have j1' : (w.drew.setCell ⟨r, i, none⟩ (.pointer (some ⟨(a j).b, 0, none⟩))).cell? ⟨r, j, none⟩ = some (.pointer (some ⟨(a j).b, 0, none⟩)) := by
    obtain ⟨r2, c2, hv2, _, _, hcs2⟩ := own_cells o1 (by omega)
    injection hv2 with hv2
    injection hv2 with hv2
    injection hv2 with hv2
    subst hv2
    have := hcs2 j (.pointer (some ⟨(a j).b, 0, none⟩)) (by rw [List.getElem?_set_ne (by omega)]; exact ptrs_get hj)
    simpa using this
  have H := Lib.hid h
  have Hd := Lib.hid hd
  have hi' : (i : Int) < n := by omega
  have hj' : (j : Int) < n := by omega
  clear h hd o1 z0 z1 j1'
  go_enter Tryz.func307, Tryz.ntmps307
  go_wp2
  refine region_ord [0, 1, 2, 3, 4, 5, 6, 7, 8, 9, 10, 11, 12, 13, 14, 15] [13, 15] [7, 11] [13, 15] rfl (by kernel_rfl) ?_
  iterate 7
    refine ord_pure rfl rfl rfl rfl rfl (fun _ _ _ _ h => h) ?_ ?_ ?_ ?_ ?_
    rotate_left 2
    · intro w'; go_simp; with_reducible rfl
    · simp only [Act.put, List.setIfInBounds_toArray, List.set_cons_zero, List.set_cons_succ]; rfl
  refine ord_read rfl rfl rfl rfl rfl (fun _ _ _ _ h => h) ?_ ?_ ?_ ?_ ?_
  rotate_left 2
  · intro w' hg; have q := hg.cell j0' (fun h => h); go_simp; with_reducible rfl
  · simp only [Act.put, List.setIfInBounds_toArray, List.set_cons_zero, List.set_cons_succ]; rfl
  iterate 3
    refine ord_pure rfl rfl rfl rfl rfl (fun _ _ _ _ h => h) ?_ ?_ ?_ ?_ ?_
    rotate_left 2
    · intro w'; go_simp; with_reducible rfl
    · simp only [Act.put, List.setIfInBounds_toArray, List.set_cons_zero, List.set_cons_succ]; rfl
  refine ord_read rfl rfl rfl rfl rfl (fun _ _ _ _ h => h) ?_ ?_ ?_ ?_ ?_
  rotate_left 2
  · intro w' hg; have q := hg.cell i0' (fun h => h); go_simp; with_reducible rfl
  · simp only [Act.put, List.setIfInBounds_toArray, List.set_cons_zero, List.set_cons_succ]; rfl
  refine ord_pure rfl rfl rfl rfl rfl (fun _ _ _ _ h => h) ?_ ?_ ?_ ?_ ?_
  rotate_left 2
  · intro w'; go_simp; with_reducible rfl
  · simp only [Act.put, List.setIfInBounds_toArray, List.set_cons_zero, List.set_cons_succ]; rfl
  refine ord_put rfl rfl rfl rfl ?_ ?_ (fun h => absurd (by simp) h) ?_
  rotate_left
  · go_simp; with_reducible rfl
  refine ord_pure rfl rfl rfl rfl rfl (fun _ _ _ _ h => h) ?_ ?_ ?_ ?_ ?_
  rotate_left 2
  · intro w'; go_simp; with_reducible rfl
  · simp only [Act.put, List.setIfInBounds_toArray, List.set_cons_zero, List.set_cons_succ]; rfl
  refine ord_put rfl rfl rfl rfl ?_ ?_ (fun h => absurd (by simp) h) ?_
  rotate_left
  · go_simp; with_reducible rfl
  refine ord_nil ?_
  have hsw := Lib.hid (H.out.swapped hi hj hij)
  obtain ⟨m1, m2, m3, m4, m5, m6, m7⟩ := H.out.mid hi hj hij rfl
  generalize (w.setCell ⟨r, i, none⟩ (.pointer (some ⟨(a j).b, 0, none⟩))).setCell ⟨r, j, none⟩ (.pointer (some ⟨(a i).b, 0, none⟩)) = w1 at *
  clear i0 j0 i2 j2 i0' j0' y0 y1 Hd H
  have m7' := m7.symm
  have m1' : w1.drew.drew.cell? ⟨r, i, none⟩ = some (.pointer (some ⟨(a j).b, 0, none⟩)) := by simpa using m1
  have m2' : w1.drew.drew.cell? ⟨r, j, none⟩ = some (.pointer (some ⟨(a i).b, 0, none⟩)) := by simpa using m2
  go_wp2
  refine region_ord [0, 1, 2, 3, 4, 5, 6, 7, 8, 9, 10, 11, 12, 13, 14, 15] [12, 15] [3, 7] [12, 15] rfl (by kernel_rfl) ?_
  iterate 3
    refine ord_pure rfl rfl rfl rfl rfl (fun _ _ _ _ h => h) ?_ ?_ ?_ ?_ ?_
    rotate_left 2
    · intro w'; go_simp; with_reducible rfl
    · simp only [Act.put, List.setIfInBounds_toArray, List.set_cons_zero, List.set_cons_succ]; rfl
  refine ord_read rfl rfl rfl rfl rfl (fun _ _ _ _ h => h) ?_ ?_ ?_ ?_ ?_
  rotate_left 2
  · intro w' hg; have q := hg.cell m1' (fun h => h); go_simp; with_reducible rfl
  · simp only [Act.put, List.setIfInBounds_toArray, List.set_cons_zero, List.set_cons_succ]; rfl
  iterate 3
    refine ord_pure rfl rfl rfl rfl rfl (fun _ _ _ _ h => h) ?_ ?_ ?_ ?_ ?_
    rotate_left 2
    · intro w'; go_simp; with_reducible rfl
    · simp only [Act.put, List.setIfInBounds_toArray, List.set_cons_zero, List.set_cons_succ]; rfl
  refine ord_read rfl rfl rfl rfl rfl (fun _ _ _ _ h => h) ?_ ?_ ?_ ?_ ?_
  rotate_left 2
  · intro w' hg; have q := hg.cell m2' (fun h => h); go_simp; with_reducible rfl
  · simp only [Act.put, List.setIfInBounds_toArray, List.set_cons_zero, List.set_cons_succ]; rfl
  iterate 4
    refine ord_pure rfl rfl rfl rfl rfl (fun _ _ _ _ h => h) ?_ ?_ ?_ ?_ ?_
    rotate_left 2
    · intro w'; go_simp; with_reducible rfl
    · simp only [Act.put, List.setIfInBounds_toArray, List.set_cons_zero, List.set_cons_succ]; rfl
  refine ord_put rfl rfl rfl rfl ?_ ?_ (fun h => absurd (by simp) h) ?_
  rotate_left
  · go_simp; with_reducible rfl
  iterate 2
    refine ord_pure rfl rfl rfl rfl rfl (fun _ _ _ _ h => h) ?_ ?_ ?_ ?_ ?_
    rotate_left 2
    · intro w'; go_simp; with_reducible rfl
    · simp only [Act.put, List.setIfInBounds_toArray, List.set_cons_zero, List.set_cons_succ]; rfl
  refine ord_put rfl rfl rfl rfl ?_ ?_ (fun h => absurd (by simp) h) ?_
  rotate_left
  · go_simp; with_reducible rfl
  refine ord_nil ?_
  go_wp2
  go_end0
  exact ⟨rfl, (hsw.out.1.grow ((Keep.refl NoB _).drew)).grow ((Keep.refl NoB _).drew), hsw.out.2.drew.drew⟩
end Go.Proofs.YtfkcpaahdlkcdaaGreat
set_option linter.unusedSimpArgs false
set_option linter.unusedVariables false
namespace Go.Proofs.YtfkcpaahdlkcdaaGreat
open Go.RowKit

theorem load_items (q : Nat) (A : Option Addr) (n c : Nat) (w : World) (h : w.cell? ⟨q, 0, none⟩ = some (.slice A n c)) : (loadVar 210 ⟨q, 0, none⟩).run Tryz.prog w = .ok (.slice A n c) w := by
  go_simp
theorem meth_len (q : Nat) (A : Option Addr) (n c : Nat) (w : World) (h : w.cell? ⟨q, 0, none⟩ = some (.slice A n c)) : (method 494 231 (.pointer (some ⟨q, 0, none⟩)) "Len").run Tryz.prog w = .ok (305, .slice A n c) w := by
  have e : (method 494 231 (.pointer (some ⟨q, 0, none⟩)) "Len").run Tryz.prog w = (do let x ← loadVar 210 ⟨q, 0, none⟩; pure (305, x)).run Tryz.prog w := by kernel_rfl
  rw [e]
  simp [Sem.run_bind, load_items q A n c w h]
theorem meth_less (q : Nat) (A : Option Addr) (n c : Nat) (w : World) (h : w.cell? ⟨q, 0, none⟩ = some (.slice A n c)) : (method 494 231 (.pointer (some ⟨q, 0, none⟩)) "Less").run Tryz.prog w = .ok (306, .slice A n c) w := by
  have e : (method 494 231 (.pointer (some ⟨q, 0, none⟩)) "Less").run Tryz.prog w = (do let x ← loadVar 210 ⟨q, 0, none⟩; pure (306, x)).run Tryz.prog w := by kernel_rfl
  rw [e]
  simp [Sem.run_bind, load_items q A n c w h]
theorem meth_swap (q : Nat) (A : Option Addr) (n c : Nat) (w : World) (h : w.cell? ⟨q, 0, none⟩ = some (.slice A n c)) : (method 494 231 (.pointer (some ⟨q, 0, none⟩)) "Swap").run Tryz.prog w = .ok (307, .slice A n c) w := by
  have e : (method 494 231 (.pointer (some ⟨q, 0, none⟩)) "Swap").run Tryz.prog w = (do let x ← loadVar 210 ⟨q, 0, none⟩; pure (307, x)).run Tryz.prog w := by kernel_rfl
  rw [e]
  simp [Sem.run_bind, load_items q A n c w h]
theorem meth_pop (q : Nat) (w : World) : (method 494 231 (.pointer (some ⟨q, 0, none⟩)) "Pop").run Tryz.prog w = .ok (311, .pointer (some ⟨q, 0, none⟩)) w := by kernel_rfl
theorem meth_push (q : Nat) (w : World) : (method 494 231 (.pointer (some ⟨q, 0, none⟩)) "Push").run Tryz.prog w = .ok (312, .pointer (some ⟨q, 0, none⟩)) w := by kernel_rfl
theorem assert_item (v : Value) (w : World) : (Instr.typeAssert (.iface 227 v) 20 227 false).run Tryz.prog w = .ok v w := by kernel_rfl

theorem Arr.popped {q m : Nat} {a : Nat → It} {r c : Nat} {mv : Value} {F : Nat → Prop} {w : World} (h : Arr q (m + 1) a (.slice (some ⟨r, 0, none⟩) (m + 1) c) mv F w) :
    Arr q m a (.slice (some ⟨r, 0, none⟩) m c) mv F (w.setCell ⟨q, 0, none⟩ (.slice (some ⟨r, 0, none⟩) m c)) ∧ Keep F w (w.setCell ⟨q, 0, none⟩ (.slice (some ⟨r, 0, none⟩) m c)) := by
  have hk : Keep (fun k => k = q) w (w.setCell ⟨q, 0, none⟩ (.slice (some ⟨r, 0, none⟩) m c)) := (Keep.refl (fun k => k = q) w).setCell (p := ⟨q, 0, none⟩) (.inl rfl) _
  have hrow : w.ownsRow 0 227 1 (.slice (some ⟨r, 0, none⟩) m c) m (ptrs m a) := by
    obtain ⟨h1, h2⟩ := h.row
    refine ⟨by simp [ptrs_length], ?_⟩
    rcases h2 with ⟨h2, _⟩ | ⟨g, cap, cur, hv, hb, hg, hn, hm, hs, ht⟩
    · cases h2
    · injection hv with hv1 hv2 hv3
      subst hv3
      refine .inr ⟨g, c, cur, by rw [hv1], hb, hg, by omega, hm, hs, ?_⟩
      have : ptrs m a = (ptrs (m + 1) a).take m := by simp [ptrs, List.range_succ, List.take_append_of_le_length]
      rw [this, ← ht, List.take_take]
      congr 1
      omega
  refine ⟨⟨?_, own_keep hrow hk (fun k hk2 hq => (h.frow k hk2).2 hq), fun i hi => (hk.block _ (h.lt _ (h.fit i (by omega)).1) (h.fit i (by omega)).2.1).trans (h.item i (by omega)), fun i j hi hj => h.inj i j (by omega) (by omega), by have := h.few; omega, h.fq, h.frow, fun i hi => h.fit i (by omega), fun k hF => Nat.lt_of_lt_of_le (h.lt k hF) hk.size⟩, hk.mono (fun k hq => hq ▸ h.fq)⟩
  simp only [World.setCell, Array.getElem?_modify]
  simp [h.cell]

set_option maxRecDepth 100000 in
theorem pop_calls (q m : Nat) (a : Nat → It) (v mv : Value) (F : Nat → Prop) (w : World) (h : Arr q (m + 1) a v mv F w) :
    Calls Tryz.prog 311 #[.pointer (some ⟨q, 0, none⟩)] w fun e w' => ∃ x v', e = .returned x ∧ Arr q m a v' mv F w' ∧ Keep F w w' := by
  obtain ⟨r, c, rfl, hr, hnc, i0, _⟩ := h.get m (by omega)
  have hc : w.cell? ⟨q, 0, none⟩ = some (.slice (some ⟨r, 0, none⟩) (m + 1) c) := by rw [cell_of_row w q 0 _ _ _ h.cell]; rfl
  have hz : w.frozen? ⟨q, 0, none⟩ = false := frozen0 0 h.cell
  have hfew := h.few
  have hw : IntKind.i64.wrap (((m + 1 : Nat) : Int) - 1) = (m : Int) := by rw [show (((m + 1 : Nat) : Int) - 1) = (m : Int) from by omega]; exact IntWalk.i64_in _ (by omega)
  have H := Lib.hid h
  clear h
  go_enter Tryz.func311, Tryz.ntmps311
  go_wp2
  go_ret
  exact ⟨_, _, rfl, H.out.popped.1, H.out.popped.2⟩

theorem ptrs_snoc (n : Nat) (a : Nat → It) (x : It) : ptrs (n + 1) (fun i => if i = n then x else a i) = ptrs n a ++ [.pointer (some ⟨x.b, 0, none⟩)] := by
  simp only [ptrs, List.range_succ, List.map_append, List.map_cons, List.map_nil, if_true]
  congr 1
  apply List.map_congr_left
  intro i hi
  have : i < n := by simpa using hi
  rw [if_neg (by omega)]
theorem setCell_cells2 {w : World} {g T : Nat} {x y : Value} (u : Value) (h : w.heap[g]? = some (.cells #[x, y] T (0, 0))) : (w.setCell ⟨g, 0, none⟩ u).heap[g]? = some (.cells #[u, y] T (0, 0)) := by
  simp only [World.setCell, Array.getElem?_modify]
  simp [h]

theorem Arr.pushed {q n : Nat} {a : Nat → It} {v v2 mv : Value} {F : Nat → Prop} {w w2 : World} {o : Obj} {p : Prop} (h : Arr q n a v mv F w) {x : It} {z : Int} (hx : w.heap[x.b]? = some (.cells #[.int .i64 x.k, .int .i64 x.t, .int .i64 z] 229 (0, 0))) (hF : ¬ F x.b) (hn : n < 1000)
    (hap : Apped 0 227 1 v v2 (n + 1) (ptrs n a ++ [.pointer (some ⟨x.b, 0, none⟩)]) ((w.setCell ⟨x.b, 2, none⟩ (.int .i64 n)).alloc o) w2 p) :
    ∃ F', Arr q (n + 1) (fun i => if i = n then x else a i) v2 mv F' (w2.setCell ⟨q, 0, none⟩ v2) ∧ Keep (fun k => F k ∨ k = x.b) w (w2.setCell ⟨q, 0, none⟩ v2) ∧ ∀ k, F' k → F k ∨ k = x.b ∨ w.heap.size ≤ k := by
  have hq := h.lt q h.fq
  have hxl : x.b < w.heap.size := (Array.getElem?_eq_some_iff.1 hx).1
  have hqx : q ≠ x.b := fun e => hF (e ▸ h.fq)
  have hs1 : (w.setCell ⟨x.b, 2, none⟩ (.int .i64 n)).heap.size = w.heap.size := by simp [World.setCell]
  have k0 : Keep (fun k => k = x.b) w ((w.setCell ⟨x.b, 2, none⟩ (.int .i64 n)).alloc o) := ((Keep.refl (fun k => k = x.b) w).setCell (p := ⟨x.b, 2, none⟩) (.inl rfl) _).alloc o
  have k1 : Keep (fun k => v.ownBlock = some k) ((w.setCell ⟨x.b, 2, none⟩ (.int .i64 n)).alloc o) w2 := (Keep.refl _ _).grown hap.grew (fun k hk => .inl hk)
  have k2 : Keep (fun k => k = q) w2 (w2.setCell ⟨q, 0, none⟩ v2) := (Keep.refl (fun k => k = q) w2).setCell (p := ⟨q, 0, none⟩) (.inl rfl) v2
  have hvx : v.ownBlock ≠ some x.b := fun e => hF (h.frow _ e).1
  have hvq : v.ownBlock ≠ some q := fun e => (h.frow _ e).2 rfl
  have k02 : Keep (fun k => k = x.b ∨ v.ownBlock = some k) w w2 := (k0.mono (fun _ h => .inl h)).trans k1 (fun k hk => .inl (.inr hk))
  have kf : Keep (fun k => k = x.b ∨ v.ownBlock = some k ∨ k = q) w (w2.setCell ⟨q, 0, none⟩ v2) := (k02.mono (fun k hk => hk.elim .inl (fun h => .inr (.inl h)))).trans k2 (fun k hk => .inl (.inr (.inr hk)))
  have hv2 : ∀ k, v2.ownBlock = some k → (v.ownBlock = some k ∨ w.heap.size ≤ k) := fun k hk => by
    rcases of_append hap k hk with h | h
    · exact .inl h
    · refine .inr ?_
      rw [h]
      simp [hs1]
  have hqc : w2.heap[q]? = some (.cells #[v, mv] 212 (0, 0)) := (k02.block q hq (fun h => h.elim hqx hvq)).trans h.cell
  have hxc : w2.heap[x.b]? = some (.cells #[.int .i64 x.k, .int .i64 x.t, .int .i64 n] 229 (0, 0)) := by
    refine (k1.block x.b (by simp [hs1]; omega) hvx).trans ?_
    rw [Below.heap_alloc _ _ _ (by rw [hs1]; exact hxl)]
    exact heap_setCell3 _ hx
  refine ⟨fun k => (F k ∨ k = x.b ∨ w.heap.size ≤ k) ∧ k < (w2.setCell ⟨q, 0, none⟩ v2).heap.size, ⟨setCell_cells2 _ hqc, ?_, ?_, ?_, by omega, ⟨.inl h.fq, Nat.lt_of_lt_of_le hq kf.size⟩, ?_, ?_, fun k hk => hk.2⟩, kf.mono (fun k hk => ?_), fun k hk => hk.1⟩
  · rw [ptrs_snoc]
    exact own_keep hap.own k2 (fun k hk hq2 => by
      subst hq2
      rcases hv2 _ hk with h1 | h1
      · exact hvq h1
      · omega)
  · intro i hi
    by_cases hin : i = n
    · subst hin
      simp only [if_true]
      exact (setCell_other (p := ⟨q, 0, none⟩) _ (Ne.symm hqx)).trans hxc
    · simp only [if_neg hin]
      have hfi := h.fit i (by omega)
      have := kf.block (a i).b (h.lt _ hfi.1) (fun e => by
        rcases e with e | e | e
        · exact hF (e ▸ hfi.1)
        · exact hfi.2.2 e
        · exact hfi.2.1 e)
      exact this.trans (h.item i (by omega))
  · intro i j hi hj e
    by_cases hin : i = n <;> by_cases hjn : j = n
    · omega
    · simp only [hin, if_true, if_neg hjn] at e
      exact absurd (e ▸ (h.fit j (by omega)).1) hF
    · simp only [hjn, if_true, if_neg hin] at e
      exact absurd (e ▸ (h.fit i (by omega)).1) hF
    · simp only [if_neg hin, if_neg hjn] at e
      exact h.inj i j (by omega) (by omega) e
  · intro k hk
    have hlt := Nat.lt_of_lt_of_le (hap.own.lt k hk).2 k2.size
    rcases hv2 k hk with h1 | h1
    · exact ⟨⟨.inl (h.frow k h1).1, hlt⟩, (h.frow k h1).2⟩
    · exact ⟨⟨.inr (.inr h1), hlt⟩, by omega⟩
  · intro i hi
    by_cases hin : i = n
    · simp only [hin, if_true]
      refine ⟨⟨.inr (.inl (by first | rfl | trivial)), Nat.lt_of_lt_of_le hxl kf.size⟩, Ne.symm hqx, fun e => ?_⟩
      rcases hv2 _ e with h1 | h1
      · exact hvx h1
      · omega
    · simp only [if_neg hin]
      have hfi := h.fit i (by omega)
      have := h.lt _ hfi.1
      refine ⟨⟨.inl hfi.1, Nat.lt_of_lt_of_le this kf.size⟩, hfi.2.1, fun e => ?_⟩
      rcases hv2 _ e with h1 | h1
      · exact hfi.2.2 h1
      · omega
  · rcases hk with e | e | e
    · exact .inr e
    · exact .inl (h.frow k e).1
    · exact .inl (e ▸ h.fq)

set_option maxRecDepth 100000 in
theorem hpush_calls (q n : Nat) (a : Nat → It) (v mv : Value) (F : Nat → Prop) (w : World) (h : Arr q n a v mv F w) (x : It) (z : Int) (hx : w.heap[x.b]? = some (.cells #[.int .i64 x.k, .int .i64 x.t, .int .i64 z] 229 (0, 0))) (hF : ¬ F x.b) (hn : n < 1000) :
    Calls Tryz.prog 312 #[.pointer (some ⟨q, 0, none⟩), .iface 227 (.pointer (some ⟨x.b, 0, none⟩))] w fun e w' => e = .returned (.tuple #[]) ∧ ∃ v' F', Arr q (n + 1) (fun i => if i = n then x else a i) v' mv F' w' ∧ Keep (fun k => F k ∨ k = x.b) w w' ∧ ∀ k, F' k → F k ∨ k = x.b ∨ w.heap.size ≤ k := by
  obtain ⟨A, c, rfl⟩ := h.slice
  have hc : w.cell? ⟨q, 0, none⟩ = some (.slice A n c) := by rw [cell_of_row w q 0 _ _ _ h.cell]; rfl
  have hz : w.frozen? ⟨q, 0, none⟩ = false := frozen0 0 h.cell
  have x2 : w.cell? ⟨x.b, 2, none⟩ = some (.int .i64 z) := by rw [cell_of_row w x.b 2 _ _ _ hx]; rfl
  have xz : w.frozen? ⟨x.b, 2, none⟩ = false := frozen0 2 hx
  have hqx : q ≠ x.b := fun e => hF (e ▸ h.fq)
  have H := Lib.hid h
  have asv := assert_item
  have hown : Hid (((w.setCell ⟨x.b, 2, none⟩ (.int .i64 n)).alloc (.cells #[.pointer (some ⟨x.b, 0, none⟩)] 227)).ownsRow 0 227 1 (.slice A n c) n (ptrs n a)) :=
    own_keep h.row (((Keep.refl (fun k => k = x.b) w).setCell (p := ⟨x.b, 2, none⟩) (.inl rfl) _).alloc _) (fun k hk e => hF (e ▸ (h.frow k hk).1))
  have hs1 : (w.setCell ⟨x.b, 2, none⟩ (.int .i64 n)).heap.size = w.heap.size := by simp [World.setCell]
  have hnew := heap_alloc_new (w.setCell ⟨x.b, 2, none⟩ (.int .i64 n)) (.cells #[.pointer (some ⟨x.b, 0, none⟩)] 227)
  rw [hs1] at hnew
  have Hnew := Lib.hid hnew
  clear h hnew
  go_enter Tryz.func312, Tryz.ntmps312
  go_wp2_with (at_builtin; refine wpList_app _ rfl _ _ 210 210 rfl 0 227 (.pointer none) 1 8 u_ips info_ip rfl (.slice A n c) n (ptrs n a) rfl (.slice (some ⟨w.heap.size, 0, none⟩) 1 1) 1 [.pointer (some ⟨x.b, 0, none⟩)] rfl ?_ (by exact hown.out) (by exact Src.ofSlice _ u_ips ⟨w.heap.size, 0, none⟩ 1 1 _ rfl (World.news_of_block (cs := #[.pointer (some ⟨x.b, 0, none⟩)]) (t := 227) (fr := (0, 0)) Hnew.out) (by simp [Value.oneCell'])) (by simp only [maxLen]; omega) (by omega) (by exact Nat.zero_le _); intro v2 w2 hap; refine Hid.out ?_)
  refine Lib.hid ?_
  have Hap := Lib.hid hap
  obtain ⟨A2, c2, rfl, _⟩ := own_slice hap.own
  have k1 : Keep (fun k => (Value.slice A n c).ownBlock = some k) ((w.setCell ⟨x.b, 2, none⟩ (.int .i64 n)).alloc (.cells #[.pointer (some ⟨x.b, 0, none⟩)] 227)) w2 := (Keep.refl _ _).grown hap.grew (fun k hk => .inl hk)
  have k2 : Keep (fun k => k = x.b ∨ (Value.slice A n c).ownBlock = some k) w w2 := ((((Keep.refl (fun k => k = x.b) w).setCell (p := ⟨x.b, 2, none⟩) (.inl rfl) _).alloc _).mono (fun _ h => .inl h)).trans k1 (fun k hk => .inl (.inr hk))
  have hd : ¬ (q = x.b ∨ (Value.slice A n c).ownBlock = some q) := fun e => e.elim hqx (fun e => (H.out.frow _ e).2 rfl)
  have hc2 := k2.cell hc hd
  have hz2 := (k2.frozen (p := ⟨q, 0, none⟩) (H.out.lt q H.out.fq) hd).trans hz
  clear hap k1 k2 hd
  go_wp2
  go_end0
  obtain ⟨F', h1, h2, h3⟩ := H.out.pushed hx hF hn Hap.out
  exact ⟨rfl, _, F', h1, h2, h3⟩
end Go.Proofs.YtfkcpaahdlkcdaaGreat
/-! Heaps, plainly. -/
set_option linter.unusedSimpArgs false
set_option linter.unusedVariables false
namespace Go.Proofs.YtfkcpaahdlkcdaaGreat

def It.le (x y : It) : Prop := x.t < y.t ∨ x.t = y.t ∧ x.k ≤ y.k
theorem It.le_trans {x y z : It} (h : x.le y) (k : y.le z) : x.le z := by unfold It.le at *; omega
theorem It.le_of_less {x y : It} (h : x.less y = true) : x.le y := by
  have := of_decide_eq_true h
  unfold It.le; omega
theorem It.le_of_not {x y : It} (h : x.less y = false) : y.le x := by
  have := of_decide_eq_false h
  unfold It.le; omega
theorem It.le_refl (x : It) : x.le x := by unfold It.le; omega

def HeapN (a : Nat → It) (n : Nat) : Prop := ∀ k, 0 < k → k < n → (a ((k - 1) / 2)).le (a k)
structure UpI (a : Nat → It) (n j : Nat) : Prop where
  u1 : ∀ k, 0 < k → k < n → k ≠ j → (a ((k - 1) / 2)).le (a k)
  u2 : ∀ k, 0 < k → k < n → (k - 1) / 2 = j → 0 < j → (a ((j - 1) / 2)).le (a k)
structure DnI (a : Nat → It) (n i0 i : Nat) : Prop where
  d1 : ∀ k, 0 < k → k < n → k ≠ i → (k - 1) / 2 ≠ i → (a ((k - 1) / 2)).le (a k)
  d2 : ∀ k, 0 < k → k < n → (k - 1) / 2 = i → 0 < i → (a ((i - 1) / 2)).le (a k)
  d3 : i ≠ i0 → 0 < i ∧ (a ((i - 1) / 2)).le (a i)
  ge : i0 ≤ i

theorem UpI.zero {a : Nat → It} {n : Nat} (h : UpI a n 0) : HeapN a n := fun k h0 hk => h.u1 k h0 hk (by omega)
theorem UpI.stop {a : Nat → It} {n j : Nat} (h : UpI a n j) (hl : (a ((j - 1) / 2)).le (a j)) : HeapN a n := fun k h0 hk => by
  by_cases e : k = j
  · subst e; exact hl
  · exact h.u1 k h0 hk e
theorem UpI.step {a : Nat → It} {n j : Nat} (h : UpI a n j) (hj : 0 < j) (hn : j < n) (hl : (a j).le (a ((j - 1) / 2))) : UpI (swp a ((j - 1) / 2) j) n ((j - 1) / 2) := by
  have hi : (j - 1) / 2 < j := by omega
  constructor
  · intro k h0 hk hne
    by_cases e : k = j
    · subst e
      rw [show swp a ((k - 1) / 2) k ((k - 1) / 2) = a k from by simp [swp], show swp a ((k - 1) / 2) k k = a ((k - 1) / 2) from by simp [swp]; omega]
      exact hl
    · rw [show swp a ((j - 1) / 2) j k = a k from by simp [swp, e, hne]]
      by_cases e1 : (k - 1) / 2 = j
      · rw [e1, show swp a ((j - 1) / 2) j j = a ((j - 1) / 2) from by simp [swp]; omega]
        exact h.u2 k h0 hk e1 hj
      · by_cases e2 : (k - 1) / 2 = (j - 1) / 2
        · rw [e2, show swp a ((j - 1) / 2) j ((j - 1) / 2) = a j from by simp [swp]]
          have := h.u1 k h0 hk e
          rw [e2] at this
          exact It.le_trans hl this
        · rw [show swp a ((j - 1) / 2) j ((k - 1) / 2) = a ((k - 1) / 2) from by simp [swp, e1, e2]]
          exact h.u1 k h0 hk e
  · intro k h0 hk he hp
    have e1 : swp a ((j - 1) / 2) j (((j - 1) / 2 - 1) / 2) = a (((j - 1) / 2 - 1) / 2) := by
      unfold swp
      rw [if_neg (by omega), if_neg (by omega)]
    rw [e1]
    have h2 := h.u1 ((j - 1) / 2) hp (by omega) (by omega)
    by_cases e : k = j
    · subst e
      rw [show swp a ((k - 1) / 2) k k = a ((k - 1) / 2) from by simp [swp]; omega]
      exact h2
    · rw [show swp a ((j - 1) / 2) j k = a k from by unfold swp; rw [if_neg (by omega), if_neg e]]
      have := h.u1 k h0 hk e
      rw [he] at this
      exact It.le_trans h2 this

theorem DnI.done {a : Nat → It} {n i0 i : Nat} (h : DnI a n i0 i) (hx : ∀ k, 0 < k → k < n → (k - 1) / 2 = i → (a i).le (a k)) (hne : i ≠ i0) : HeapN a n := fun k h0 hk => by
  by_cases e : k = i
  · subst e; exact (h.d3 hne).2
  · by_cases e2 : (k - 1) / 2 = i
    · rw [e2]; exact hx k h0 hk e2
    · exact h.d1 k h0 hk e e2
theorem DnI.same {a : Nat → It} {n i : Nat} (h : DnI a n i i) (hx : ∀ k, 0 < k → k < n → (k - 1) / 2 = i → (a i).le (a k)) : UpI a n i := by
  constructor
  · intro k h0 hk e
    by_cases e2 : (k - 1) / 2 = i
    · rw [e2]; exact hx k h0 hk e2
    · exact h.d1 k h0 hk e e2
  · exact h.d2
theorem DnI.step {a : Nat → It} {n i0 i j : Nat} (h : DnI a n i0 i) (hj : (j - 1) / 2 = i) (h0j : 0 < j) (hjn : j < n) (hl : (a j).le (a i)) (hm : ∀ k, 0 < k → k < n → (k - 1) / 2 = i → (a j).le (a k)) : DnI (swp a i j) n i0 j := by
  have hij : i < j := by omega
  constructor
  · intro k h0 hk hne hp
    by_cases e : k = i
    · subst e
      rw [show swp a k j k = a j from by simp [swp], show swp a k j ((k - 1) / 2) = a ((k - 1) / 2) from by unfold swp; rw [if_neg (by omega), if_neg (by omega)]]
      exact h.d2 j h0j hjn hj h0
    · rw [show swp a i j k = a k from by simp [swp, e, hne]]
      by_cases e2 : (k - 1) / 2 = i
      · rw [e2, show swp a i j i = a j from by simp [swp]]
        exact hm k h0 hk e2
      · rw [show swp a i j ((k - 1) / 2) = a ((k - 1) / 2) from by simp [swp, e2, hp]]
        exact h.d1 k h0 hk e e2
  · intro k h0 hk he hp
    rw [hj, show swp a i j i = a j from by simp [swp], show swp a i j k = a k from by unfold swp; rw [if_neg (by omega), if_neg (by omega)]]
    have := h.d1 k h0 hk (by omega) (by omega)
    rw [he] at this
    exact this
  · intro _
    refine ⟨h0j, ?_⟩
    rw [hj, show swp a i j i = a j from by simp [swp], show swp a i j j = a i from by simp [swp]; omega]
    exact hl
  · have := h.ge
    omega

/-- The same items below n, and all the rest. -/
structure Same (a b : Nat → It) (n : Nat) : Prop where
  to : ∀ i, i < n → ∃ j, j < n ∧ b i = a j
  of : ∀ i, i < n → ∃ j, j < n ∧ a i = b j
  rest : ∀ i, n ≤ i → b i = a i
theorem Same.refl (a : Nat → It) (n : Nat) : Same a a n := ⟨fun i h => ⟨i, h, rfl⟩, fun i h => ⟨i, h, rfl⟩, fun _ _ => rfl⟩
theorem Same.trans {a b c : Nat → It} {n : Nat} (h : Same a b n) (k : Same b c n) : Same a c n := by
  refine ⟨fun i hi => ?_, fun i hi => ?_, fun i hi => (k.rest i hi).trans (h.rest i hi)⟩
  · obtain ⟨j, hj, e⟩ := k.to i hi
    obtain ⟨m, hm, e2⟩ := h.to j hj
    exact ⟨m, hm, e.trans e2⟩
  · obtain ⟨j, hj, e⟩ := h.of i hi
    obtain ⟨m, hm, e2⟩ := k.of j hj
    exact ⟨m, hm, e.trans e2⟩
theorem Same.swp (a : Nat → It) {n i j : Nat} (hi : i < n) (hj : j < n) : Same a (swp a i j) n := by
  refine ⟨fun k hk => ?_, fun k hk => ?_, fun k hk => ?_⟩
  · unfold Go.Proofs.YtfkcpaahdlkcdaaGreat.swp
    split
    · exact ⟨j, hj, rfl⟩
    · split
      · exact ⟨i, hi, rfl⟩
      · exact ⟨k, hk, rfl⟩
  · by_cases h1 : k = i
    · by_cases h2 : i = j
      · exact ⟨j, hj, by subst h2; simp [h1, Go.Proofs.YtfkcpaahdlkcdaaGreat.swp]⟩
      · exact ⟨j, hj, by simp [h1, Go.Proofs.YtfkcpaahdlkcdaaGreat.swp]; omega⟩
    · by_cases h2 : k = j
      · exact ⟨i, hi, by simp [h2, Go.Proofs.YtfkcpaahdlkcdaaGreat.swp]⟩
      · exact ⟨k, hk, by simp [h1, h2, Go.Proofs.YtfkcpaahdlkcdaaGreat.swp]⟩
  · unfold Go.Proofs.YtfkcpaahdlkcdaaGreat.swp
    rw [if_neg (by omega), if_neg (by omega)]
theorem Same.mono {a b : Nat → It} {n m : Nat} (h : Same a b n) (hm : n ≤ m) : Same a b m := by
  refine ⟨fun i hi => ?_, fun i hi => ?_, fun i hi => h.rest i (by omega)⟩
  · by_cases e : i < n
    · obtain ⟨j, hj, q⟩ := h.to i e
      exact ⟨j, by omega, q⟩
    · exact ⟨i, hi, h.rest i (by omega)⟩
  · by_cases e : i < n
    · obtain ⟨j, hj, q⟩ := h.of i e
      exact ⟨j, by omega, q⟩
    · exact ⟨i, hi, (h.rest i (by omega)).symm⟩
theorem HeapN.min {a : Nat → It} {n : Nat} (h : HeapN a n) : ∀ k, k < n → (a 0).le (a k) := by
  intro k
  induction k using Nat.strongRecOn with
  | ind k ih =>
    intro hk
    by_cases h0 : k = 0
    · subst h0; exact It.le_refl _
    · exact It.le_trans (ih ((k - 1) / 2) (by omega) (by omega)) (h k (by omega) hk)
end Go.Proofs.YtfkcpaahdlkcdaaGreat
set_option linter.unusedSimpArgs false
set_option linter.unusedVariables false
namespace Go.Proofs.YtfkcpaahdlkcdaaGreat
open Go.RowKit

theorem Arr.cell0 {q n : Nat} {a : Nat → It} {A : Option Addr} {c : Nat} {mv : Value} {F : Nat → Prop} {w : World} (h : Arr q n a (.slice A n c) mv F w) : w.cell? ⟨q, 0, none⟩ = some (.slice A n c) := by
  rw [cell_of_row w q 0 _ _ _ h.cell]; rfl

/-- What up and down know. -/
structure Hp (q N n : Nat) (a a' : Nat → It) (v mv : Value) (F : Nat → Prop) (w w' : World) : Prop where
  arr : Arr q N a' v mv F w'
  same : Same a a' n
  keep : Keep F w w'
theorem Hp.grow {q N n : Nat} {a a' : Nat → It} {v mv : Value} {F : Nat → Prop} {w w' w2 : World} (h : Hp q N n a a' v mv F w w') (hg : Grow w' w2) : Hp q N n a a' v mv F w w2 := ⟨h.arr.grow hg, h.same, h.keep.grow hg⟩
theorem Hp.swp {q N n : Nat} {a a' : Nat → It} {v mv : Value} {F : Nat → Prop} {w w' w2 : World} (h : Hp q N n a a' v mv F w w') {i j : Nat} (hi : i < n) (hj : j < n) (h2 : Arr q N (swp a' i j) v mv F w2) (hk : Keep F w' w2) : Hp q N n a (Go.Proofs.YtfkcpaahdlkcdaaGreat.swp a' i j) v mv F w w2 :=
  ⟨h2, h.same.trans (Same.swp a' hi hj), h.keep.trans hk (fun i hi => .inl hi)⟩

set_option maxRecDepth 100000 in
theorem up_calls (q N n : Nat) (a : Nat → It) (v mv : Value) (F : Nat → Prop) (w : World) (h : Arr q N a v mv F w) (hnN : n ≤ N) (j : Nat) (hj : j < n) (hU : UpI a n j) :
    Calls Tryz.prog 215 #[.iface 231 (.pointer (some ⟨q, 0, none⟩)), .int .i64 j] w fun e w' => e = .returned (.tuple #[]) ∧ ∃ a', Hp q N n a a' v mv F w w' ∧ HeapN a' n := by
  obtain ⟨A, c, rfl⟩ := h.slice
  have hfew := h.few
  have HH : Hid (Hp q N n a a (.slice A N c) mv F w w) := ⟨h, Same.refl _ _, Keep.refl _ _⟩
  have HU := Lib.hid hU
  clear h hU
  go_enter Tryz.func215, Tryz.ntmps215
  go_wp2
  go_loopw [1] (fun v wr => ∃ j a', j < n ∧ v = .int .i64 (j : Nat) ∧ Hid (Hp q N n a a' (.slice A N c) mv F w wr) ∧ Hid (UpI a' n j)) (fun v _ => (intOf v).toNat)
  case atStart => exact ⟨j, a, hj, rfl, HH, HU⟩
  case round =>
    clear HH HU hj j
    obtain ⟨j, a', hj, rfl, HH, HU⟩ := hrel
    rcases Nat.eq_zero_or_pos j with h0 | h0
    · subst h0
      go_wp2
      go_end0
      exact ⟨rfl, a', HH.out, HU.out.zero⟩
    · obtain ⟨m, rfl⟩ : ∃ m, j = m + 1 := ⟨j - 1, by omega⟩
      have hw : IntKind.i64.wrap (((m + 1 : Nat) : Int) - 1) = (m : Int) := by rw [show (((m + 1 : Nat) : Int) - 1) = (m : Int) from by omega]; exact IntWalk.i64_in _ (by omega)
      have hm := meth_less q A N c wr HH.out.arr.cell0
      have hne : ¬ ((m : Int) / 2 = (m : Int) + 1) := by omega
      have hne2 : ((m : Int) / 2 == (m : Int) + 1) = false := beq_eq_false_iff_ne.2 hne
      go_wp2_with fail
      have hpar : (m + 1 - 1) / 2 = m / 2 := by simp
      refine (less_calls q N a' _ mv F wr HH.out.arr (m + 1) (m / 2) (by omega) (by omega)).mono ?_
      rintro e w2 ⟨rfl, hg⟩
      have HH2 := Lib.hid (HH.out.grow hg)
      have hm2 := meth_swap q A N c w2 HH2.out.arr.cell0
      clear hg HH hm
      cases hl : (a' (m + 1)).less (a' (m / 2)) with
      | false =>
        have hstop : Hid (HeapN a' n) := HU.out.stop (by rw [hpar]; exact It.le_of_not hl)
        clear hl
        go_wp2
        go_end0
        exact ⟨rfl, a', HH2.out, hstop.out⟩
      | true =>
        have hU' := HU.out.step (by omega) hj (by rw [hpar]; exact It.le_of_less hl)
        rw [hpar] at hU'
        have HU' := Lib.hid hU'
        clear hl hU' HU
        go_wp2_with fail
        refine (swap_calls q N a' _ mv F w2 HH2.out.arr (m / 2) (m + 1) (by omega) (by omega) (by omega)).mono ?_
        rintro e w3 ⟨rfl, h3, hk⟩
        have HH3 := Lib.hid (HH2.out.swp (i := m / 2) (j := m + 1) (by omega) hj h3 hk)
        clear h3 hk
        go_wp2
        go_roundw
        case rel => exact ⟨m / 2, _, by omega, rfl, HH3, HU'⟩
        case measure => simp [intOf]; omega
end Go.Proofs.YtfkcpaahdlkcdaaGreat
