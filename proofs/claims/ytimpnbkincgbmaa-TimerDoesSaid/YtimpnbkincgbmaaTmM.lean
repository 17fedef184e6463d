import Derived.Test.YtimpnbkincgbmaaTmL
set_option linter.unusedSimpArgs false
set_option linter.unusedVariables false
namespace Go.Proofs.Ytimpnbkincgbmaa
open Go.RowKit

def delL (l : List KT) (key : Int) : List KT := l.filter (fun x => decide (x.1 ≠ key))
def hasL (l : List KT) (key : Int) : Bool := l.any (fun x => decide (x.1 = key))
def atL (l : List KT) (key : Int) : Int := ((l.find? (fun x => decide (x.1 = key))).map (·.2)).getD 0
def setL (l : List KT) (key at_ : Int) : List KT := delL l key ++ [(key, at_)]
theorem mem_delL {l : List KT} {key : Int} {x : KT} : x ∈ delL l key ↔ x ∈ l ∧ x.1 ≠ key := by simp [delL]
theorem mem_setL {l : List KT} {key at_ : Int} {x : KT} : x ∈ setL l key at_ ↔ (x ∈ l ∧ x.1 ≠ key) ∨ x = (key, at_) := by simp [setL, mem_delL]
theorem ND.del {l : List KT} (h : ND l) (key : Int) : ND (delL l key) := h.filter _
theorem ND.set {l : List KT} (h : ND l) (key at_ : Int) : ND (setL l key at_) := by
  unfold setL ND
  rw [List.pairwise_append]
  refine ⟨h.del key, by simp, fun x hx y hy => ?_⟩
  have : y = (key, at_) := by simpa using hy
  subst this
  exact (mem_delL.1 hx).2
theorem delL_absent {l : List KT} {key : Int} (h : ∀ x ∈ l, x.1 ≠ key) : delL l key = l := by
  unfold delL
  rw [List.filter_eq_self]
  intro x hx
  simpa using h x hx
theorem delL_length : ∀ {l : List KT} {key t : Int}, ND l → (key, t) ∈ l → (delL l key).length + 1 = l.length
  | [], _, _, _, h => by cases h
  | y :: r, key, t, hn, h => by
    obtain ⟨h1, h2⟩ := List.pairwise_cons.1 hn
    rcases List.mem_cons.1 h with e | e
    · subst e
      have : delL r key = r := delL_absent (fun x hx => (h1 x hx).symm)
      have e2 : delL ((key, t) :: r) key = delL r key := by simp [delL]
      rw [e2, this]
      rfl
    · have hne : y.1 ≠ key := h1 _ e
      have ih := delL_length h2 e
      have e2 : delL (y :: r) key = y :: delL r key := by simp [delL, hne]
      rw [e2, List.length_cons, List.length_cons]
      omega
theorem hasL_iff {l : List KT} {key : Int} : hasL l key = true ↔ ∃ t, (key, t) ∈ l := by
  simp only [hasL, List.any_eq_true, decide_eq_true_eq]
  constructor
  · rintro ⟨x, hx, rfl⟩
    exact ⟨x.2, hx⟩
  · rintro ⟨t, h⟩
    exact ⟨_, h, rfl⟩
theorem hasL_no {l : List KT} {key : Int} (h : ∀ x ∈ l, x.1 ≠ key) : hasL l key = false := by
  cases hb : hasL l key with
  | false => rfl
  | true =>
    obtain ⟨t, ht⟩ := hasL_iff.1 hb
    exact absurd rfl (h _ ht)
theorem atL_no {l : List KT} {key : Int} (h : ∀ x ∈ l, x.1 ≠ key) : atL l key = 0 := by
  have : l.find? (fun x => decide (x.1 = key)) = none := List.find?_eq_none.2 (fun x hx => by simpa using h x hx)
  simp [atL, this]
theorem atL_yes : ∀ {l : List KT} {key t : Int}, ND l → (key, t) ∈ l → atL l key = t
  | [], _, _, _, h => by cases h
  | y :: r, key, t, hn, h => by
    obtain ⟨h1, h2⟩ := List.pairwise_cons.1 hn
    rcases List.mem_cons.1 h with e | e
    · subst e; simp [atL]
    · have hne : y.1 ≠ key := h1 _ e
      have ih := atL_yes h2 e
      simpa [atL, hne] using ih
theorem setL_length {l : List KT} {key t : Int} : (setL l key t).length = (delL l key).length + 1 := by simp [setL]

theorem Says.mk' {n : Nat} {a : Nat → It} {l : List KT} (h : Says n a l) {i : Nat} (hi : i < n) : ((a i).k, (a i).t) ∈ l := (h.mem _).2 ⟨i, hi, rfl⟩
theorem Says.none {n : Nat} {a : Nat → It} {l : List KT} (h : Says n a l) {key : Int} (hno : ∀ i, i < n → (a i).k ≠ key) : ∀ x ∈ l, x.1 ≠ key := fun x hx => by
  obtain ⟨i, hi, rfl⟩ := (h.mem x).1 hx
  exact hno i hi
theorem Says.same {n : Nat} {a b : Nat → It} {l : List KT} (h : Says n a l) (hs : Same a b n) : Says n b l := by
  refine ⟨h.len, h.nd, fun x => ⟨fun hx => ?_, fun ⟨i, hi, e⟩ => ?_⟩⟩
  · obtain ⟨i, hi, rfl⟩ := (h.mem x).1 hx
    obtain ⟨j, hj, e⟩ := hs.of i hi
    exact ⟨j, hj, by rw [← e]⟩
  · obtain ⟨j, hj, e2⟩ := hs.to i hi
    rw [e, e2]
    exact h.mk' hj

theorem tnext_nil (w : World) : Calls Try.prog 31 #[.pointer none] w fun e w' => e = .returned (.tuple #[.int .i64 0, .int .i64 0, .bool false]) ∧ w = w' := by
  go_enter Try.func31, Try.ntmps31
  go_wp2_with fail
  refine (tlen_nil w).mono ?_
  rintro e w' ⟨rfl, rfl⟩
  go_wp2
  go_ret3
  exact ⟨rfl, rfl⟩
theorem tnext_no {q : Nat} {F : Nat → Prop} {w : World} (h : Que q [] F w) : Calls Try.prog 31 #[.pointer (some ⟨q, 0, none⟩)] w fun e w' => e = .returned (.tuple #[.int .i64 0, .int .i64 0, .bool false]) ∧ w = w' := by
  have H := Lib.hid h
  clear h
  go_enter Try.func31, Try.ntmps31
  go_wp2_with fail
  refine (tlen_calls H.out).mono ?_
  rintro e w' ⟨rfl, rfl⟩
  go_wp2
  go_ret3
  exact ⟨rfl, rfl⟩

set_option maxRecDepth 100000 in
theorem tnext_is {q n : Nat} {a : Nat → It} {v mv : Value} {F : Nat → Prop} {w : World} (h : Arr q n a v mv F w) (h0 : 0 < n) : Calls Try.prog 31 #[.pointer (some ⟨q, 0, none⟩)] w fun e w' => e = .returned (.tuple #[.int .i64 (a 0).k, .int .i64 (a 0).t, .bool true]) ∧ Grow w w' := by
  obtain ⟨r, c, rfl, hr, hnc, i0, i1, i2, _⟩ := h.get 0 h0
  have hc := h.cell0
  have H := Lib.hid h
  have hcd : w.drew.cell? ⟨q, 0, none⟩ = some (.slice (some ⟨r, 0, none⟩) n c) := by simpa using hc
  have i0' : w.drew.cell? ⟨r, 0, none⟩ = some (.pointer (some ⟨(a 0).b, 0, none⟩)) := by simpa using i0
  have i1' : w.drew.cell? ⟨(a 0).b, 0, none⟩ = some (.int .i64 (a 0).k) := by simpa using i1
  have i2' : w.drew.cell? ⟨(a 0).b, 1, none⟩ = some (.int .i64 (a 0).t) := by simpa using i2
  have h0' : (0 : Int) < n := by omega
  have hn : ((n : Int) == 0) = false := beq_eq_false_iff_ne.2 (by omega)
  clear h i0 i1 i2 hc
  go_enter Try.func31, Try.ntmps31
  go_wp2_with fail
  refine (tlen_is H.out).mono ?_
  rintro e w' ⟨rfl, rfl⟩
  go_wp2
  refine region_ord [0, 1, 2, 3, 4, 5, 6, 7, 8, 9, 10, 11, 12, 13, 14, 15, 16, 17, 18, 19, 20] [18, 19, 20] [3, 5, 8, 12, 14, 17] [] rfl (by kernel_rfl) ?_
  iterate 3
    refine ord_pure rfl rfl rfl rfl rfl (fun _ _ _ _ h => h) ?_ ?_ ?_ ?_ ?_
    rotate_left 2
    · intro w'; go_simp; with_reducible rfl
    · simp only [Act.put, List.setIfInBounds_toArray, List.set_cons_zero, List.set_cons_succ]; rfl
  refine ord_read rfl rfl rfl rfl rfl (fun _ _ _ _ h => h) ?_ ?_ ?_ ?_ ?_
  rotate_left 2
  · intro w' hg; have q := hg.cell hcd (fun h => h); go_simp; with_reducible rfl
  · simp only [Act.put, List.setIfInBounds_toArray, List.set_cons_zero, List.set_cons_succ]; rfl
  refine ord_pure rfl rfl rfl rfl rfl (fun _ _ _ _ h => h) ?_ ?_ ?_ ?_ ?_
  rotate_left 2
  · intro w'; go_simp; with_reducible rfl
  · simp only [Act.put, List.setIfInBounds_toArray, List.set_cons_zero, List.set_cons_succ]; rfl
  refine ord_read rfl rfl rfl rfl rfl (fun _ _ _ _ h => h) ?_ ?_ ?_ ?_ ?_
  rotate_left 2
  · intro w' hg; have q := hg.cell i0' (fun h => h); go_simp; with_reducible rfl
  · simp only [Act.put, List.setIfInBounds_toArray, List.set_cons_zero, List.set_cons_succ]; rfl
  iterate 2
    refine ord_pure rfl rfl rfl rfl rfl (fun _ _ _ _ h => h) ?_ ?_ ?_ ?_ ?_
    rotate_left 2
    · intro w'; go_simp; with_reducible rfl
    · simp only [Act.put, List.setIfInBounds_toArray, List.set_cons_zero, List.set_cons_succ]; rfl
  refine ord_read rfl rfl rfl rfl rfl (fun _ _ _ _ h => h) ?_ ?_ ?_ ?_ ?_
  rotate_left 2
  · intro w' hg; have q := hg.cell i1' (fun h => h); go_simp; with_reducible rfl
  · simp only [Act.put, List.setIfInBounds_toArray, List.set_cons_zero, List.set_cons_succ]; rfl
  iterate 3
    refine ord_pure rfl rfl rfl rfl rfl (fun _ _ _ _ h => h) ?_ ?_ ?_ ?_ ?_
    rotate_left 2
    · intro w'; go_simp; with_reducible rfl
    · simp only [Act.put, List.setIfInBounds_toArray, List.set_cons_zero, List.set_cons_succ]; rfl
  refine ord_read rfl rfl rfl rfl rfl (fun _ _ _ _ h => h) ?_ ?_ ?_ ?_ ?_
  rotate_left 2
  · intro w' hg; have q := hg.cell hcd (fun h => h); go_simp; with_reducible rfl
  · simp only [Act.put, List.setIfInBounds_toArray, List.set_cons_zero, List.set_cons_succ]; rfl
  refine ord_pure rfl rfl rfl rfl rfl (fun _ _ _ _ h => h) ?_ ?_ ?_ ?_ ?_
  rotate_left 2
  · intro w'; go_simp; with_reducible rfl
  · simp only [Act.put, List.setIfInBounds_toArray, List.set_cons_zero, List.set_cons_succ]; rfl
  refine ord_read rfl rfl rfl rfl rfl (fun _ _ _ _ h => h) ?_ ?_ ?_ ?_ ?_
  rotate_left 2
  · intro w' hg; have q := hg.cell i0' (fun h => h); go_simp; with_reducible rfl
  · simp only [Act.put, List.setIfInBounds_toArray, List.set_cons_zero, List.set_cons_succ]; rfl
  iterate 2
    refine ord_pure rfl rfl rfl rfl rfl (fun _ _ _ _ h => h) ?_ ?_ ?_ ?_ ?_
    rotate_left 2
    · intro w'; go_simp; with_reducible rfl
    · simp only [Act.put, List.setIfInBounds_toArray, List.set_cons_zero, List.set_cons_succ]; rfl
  refine ord_read rfl rfl rfl rfl rfl (fun _ _ _ _ h => h) ?_ ?_ ?_ ?_ ?_
  rotate_left 2
  · intro w' hg; have q := hg.cell i2' (fun h => h); go_simp; with_reducible rfl
  · simp only [Act.put, List.setIfInBounds_toArray, List.set_cons_zero, List.set_cons_succ]; rfl
  iterate 3
    refine ord_set rfl rfl rfl rfl ?_ ?_ ?_ ?_ ?_
    rotate_left 2
    · go_simp; with_reducible rfl
    · simp only [Act.put, List.setIfInBounds_toArray, List.set_cons_zero, List.set_cons_succ]; rfl
  refine ord_nil ?_
  go_wp2
  go_ret3
  exact ⟨rfl, (Keep.refl _ _).drew⟩
/-- The first: of the least time, and of those of the least key. -/
def lekt (x y : KT) : Prop := x.2 < y.2 ∨ x.2 = y.2 ∧ x.1 ≤ y.1
theorem tnext_yes {q : Nat} {l : List KT} {F : Nat → Prop} {w : World} (h : Que q l F w) (h0 : l ≠ []) : Calls Try.prog 31 #[.pointer (some ⟨q, 0, none⟩)] w fun e w' =>
    ∃ x, e = .returned (.tuple #[.int .i64 x.1, .int .i64 x.2, .bool true]) ∧ Grow w w' ∧ x ∈ l ∧ (∀ y ∈ l, lekt x y) ∧ okI x.1 := by
  obtain ⟨n, a, v, mb, F', h1, h2, h3⟩ := h
  have hn : 0 < n := by
    rw [← h2.len]
    exact List.length_pos_iff.2 h0
  refine (tnext_is h1.arr hn).mono ?_
  rintro e w' ⟨rfl, hg⟩
  refine ⟨((a 0).k, (a 0).t), rfl, hg, h2.mk' hn, fun y hy => ?_, h1.okk 0 hn⟩
  obtain ⟨i, hi, rfl⟩ := (h2.mem y).1 hy
  exact h1.heap.min i hi

theorem tat_nil (key : Int) (w : World) : Calls Try.prog 35 #[.pointer none, .int .i64 key] w fun e w' => e = .returned (.tuple #[.int .i64 0, .bool false]) ∧ w = w' := by
  go_enter Try.func35, Try.ntmps35
  go_wp2
  go_ret2
  exact ⟨rfl, rfl⟩
theorem cell1 {w : World} {g T : Nat} {x y : Value} (h : w.heap[g]? = some (.cells #[x, y] T (0, 0))) : w.cell? ⟨g, 1, none⟩ = some y := by
  rw [cell_of_row w g 1 _ _ _ h]; rfl
theorem tat_calls {q : Nat} {l : List KT} {F : Nat → Prop} {w : World} (h : Que q l F w) (key : Int) (hk : okI key) : Calls Try.prog 35 #[.pointer (some ⟨q, 0, none⟩), .int .i64 key] w fun e w' => e = .returned (.tuple #[.int .i64 (atL l key), .bool (hasL l key)]) ∧ w = w' := by
  obtain ⟨n, a, v, mb, F', h1, h2, h3⟩ := h
  have hm := cell1 h1.arr.cell
  rcases h1.map.look hk with ⟨i, hi, rfl, hl⟩ | ⟨hno, hl⟩
  · obtain ⟨r, c, rfl, hr, hnc, i0, i1, i2, _⟩ := h1.arr.get i hi
    rw [atL_yes h2.nd (h2.mk' hi), hasL_iff.2 ⟨_, h2.mk' hi⟩]
    clear h1 h2 h3
    go_enter Try.func35, Try.ntmps35
    go_wp2
    go_ret2
    exact ⟨rfl, rfl⟩
  · rw [atL_no (h2.none hno), hasL_no (h2.none hno)]
    clear h1 h2 h3 hno
    go_enter Try.func35, Try.ntmps35
    go_wp2
    go_ret2
    exact ⟨rfl, rfl⟩
end Go.Proofs.Ytimpnbkincgbmaa
