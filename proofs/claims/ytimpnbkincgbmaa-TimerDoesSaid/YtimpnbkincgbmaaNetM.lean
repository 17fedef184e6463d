import Derived.Test.YtimpnbkincgbmaaNetL
import Derived.Test.YtimpnbkincgbmaaNetF
set_option linter.unusedSimpArgs false
set_option linter.unusedVariables false
namespace Go.Proofs.Ytimpnbkincgbmaa
open Go.RowKit

/-- A list behind an append of one pair. -/
theorem RefIs.pushed {l : List G} {v : Value} {R C : Nat → Prop} {w w1 w2 : World} {vs : List Value} (hN : RefIs l v R w vs) {to : Int} {b : List Int} {bv v1 v2 : Value} {o : Obj} {p : Prop} (hb : Foot (SliceR 1 bv b.length (u8s b)) w C) (hlen : b.length ≤ 200) (hroom : l.length < 1000)
    (h1 : Grow w w1) (ho : w1.ownsRow w.heap.size 43 2 v1 l.length vs) (hap : Apped w.heap.size 43 2 v1 v2 (l.length + 1) (vs ++ [.int .i64 to, bv]) (w1.alloc o) w2 p) :
    ∃ R', Ref (l ++ [(to, b)]) v2 R' w2 ∧ Grow w w2 ∧ ∀ k, R' k → R k ∨ C k ∨ w.heap.size ≤ k := by
  have hk : Grow w w2 := ((Keep.grown (S := fun k => w.heap.size ≤ k) ((h1.mono (fun _ h => h.elim)).alloc o) hap.grew (fun k hk => .inl (ho.lt k hk).1))).new (fun _ h => h)
  refine ⟨fun k => (R k ∨ C k ∨ w.heap.size ≤ k) ∧ k < w2.heap.size, ⟨vs ++ [.int .i64 to, bv], ?_, ?_, ?_, by simp; omega, fun k h => h.2⟩, hk, fun k h => h.1⟩
  · rw [List.length_append]; exact own_base0 hap.own
  · intro k h
    have := hap.own.lt k h
    exact ⟨.inr (.inr this.1), this.2⟩
  · refine (GramsR.snoc (hN.grams.keep hk (fun _ _ h => h)) hN.row.1 (to, b) bv hlen (hb.grow hk) (fun k h => Nat.lt_of_lt_of_le (hN.lt k h) hk.size)).mono (fun k h => h.2) (fun k h => ?_)
    rcases h with h | h
    · exact ⟨.inl h, Nat.lt_of_lt_of_le (hN.lt k h) hk.size⟩
    · exact ⟨.inr (.inl h), Nat.lt_of_lt_of_le (hb.lt h) hk.size⟩

set_option maxRecDepth 100000 in
theorem rpush_yes (l : List G) (v : Value) (R : Nat → Prop) (w : World) (hN : Ref l v R w) (to : Int) (h0 : 0 ≤ to) (h1 : to ≤ 1) (A2 : Option Addr) (c2 : Nat) (b : List Int) (C : Nat → Prop) (hb : Foot (SliceR 1 (.slice A2 b.length c2) b.length (u8s b)) w C) (hlen : b.length ≤ 200) (hroom : l.length < 1000) :
    Calls Try.prog 42 #[v, .int .i64 to, .slice A2 b.length c2] w fun e w' => ∃ v' R', e = .returned (.tuple #[v', .bool true]) ∧ Ref (l ++ [(to, b)]) v' R' w' ∧ Grow w w' ∧ ∀ k, R' k → R k ∨ C k ∨ w.heap.size ≤ k := by
  obtain ⟨vs, hN⟩ := hN
  have hone := hN.grams.one hN.row.1
  obtain ⟨A, n, rfl, _⟩ := own_slice hN.row
  have Hs := Lib.hid ((SliceR.of_own hN.row).src u_dl hone)
  have HN := Lib.hid hN
  have Hb := Lib.hid hb
  clear hN hb hone
  go_enter Try.func42, Try.ntmps42
  go_wp2_with (at_builtin; refine wpList_app _ rfl _ _ 37 37 rfl w.heap.size 43 (.agg #[.int .i64 0, .slice none 0 0]) 2 32 u_dl info_d rfl (.slice none 0 0) 0 [] rfl (.slice A l.length n) l.length vs rfl ?_ (by exact World.ownsRow_nil _ _ _ _) (by exact Hs.out) (by simp only [maxLen]; omega) (by omega) (by exact Nat.le_refl _); intro v1 w1 hap; refine Hid.out ?_)
  refine Lib.hid ?_
  have ho := hap.own
  simp only [Nat.zero_add, List.nil_append] at ho
  have hg1 : Grow w w1 := (Keep.refl NoB w).grown hap.grew (by simp [Value.ownBlock])
  obtain ⟨A1, c1, rfl, _⟩ := own_slice ho
  clear hap
  have Ho := Lib.hid ho
  have Hg1 := Lib.hid hg1
  clear ho hg1
  go_wp2_with (at_builtin; refine wpList_app _ rfl _ _ 37 37 rfl w.heap.size 43 (.agg #[.int .i64 0, .slice none 0 0]) 2 32 u_dl info_d rfl (.slice A1 l.length c1) l.length vs rfl (.slice (some ⟨w1.heap.size, 0, none⟩) 1 1) 1 [.int .i64 to, .slice A2 b.length c2] rfl ?_ (by exact own_keep Ho.out ((Keep.refl NoB w1).alloc _) (fun _ _ h => h)) (by exact Src.ofSlice _ u_dl ⟨w1.heap.size, 0, none⟩ 1 1 _ rfl (World.news_of_block (cs := #[.int .i64 to, .slice A2 b.length c2]) (t := 43) (fr := (0, 0)) (heap_alloc_new w1 _)) (by simp [Value.oneCell'])) (by simp only [maxLen]; omega) (by omega) (by have := Hg1.out.size; simp; omega); intro v2 w2 hap2)
  have H2 := Lib.hid hap2
  obtain ⟨A2, c2, rfl, _⟩ := own_slice hap2.own
  clear hap2
  go_wp2
  go_ret2
  obtain ⟨R', h1, h2, h3⟩ := HN.out.pushed Hb.out hlen hroom Hg1.out Ho.out H2.out
  exact ⟨_, R', rfl, h1, h2, h3⟩

theorem rtwice_no (A : Option Addr) (n c : Nat) (i : Int) (w : World) (h : i < 0 ∨ n ≤ i) : Calls Try.prog 40 #[.slice A n c, .int .i64 i] w fun e w' => e = .returned (.tuple #[.slice A n c, .bool false]) ∧ w = w' := by
  go_enter Try.func40, Try.ntmps40
  go_wp2_with fail
  refine (ris_no A n c i _ h).mono ?_
  rintro e w' ⟨rfl, rfl⟩
  go_wp2
  go_ret2
  exact ⟨rfl, rfl⟩

set_option maxRecDepth 100000 in
theorem rtwice_run (l : List G) (v : Value) (R : Nat → Prop) (i : Nat) (w : World) (hN : Ref l v R w) (hi : i < l.length) (Q : Value → Bool → World → Prop)
    (hpush : ∀ A c, Foot (SliceR 1 (.slice A l[i].2.length c) l[i].2.length (u8s l[i].2)) w R → l[i].2.length ≤ 200 → Calls Try.prog 42 #[v, .int .i64 l[i].1, .slice A l[i].2.length c] w.drew fun e w' => ∃ v' o, e = .returned (.tuple #[v', .bool o]) ∧ Grow w.drew w' ∧ Q v' o w') :
    Calls Try.prog 40 #[v, .int .i64 i] w fun e w' => ∃ v' o, e = .returned (.tuple #[v', .bool o]) ∧ Q v' o w' := by
  obtain ⟨vs, hN⟩ := hN
  obtain ⟨r, c, A, n, rfl, hr, hlc, h2, h3, h4, h5, _⟩ := hN.get i hi
  have HP := Lib.hid (hpush A n h5 h4)
  clear hpush
  generalize l[i].2 = b at *
  generalize l[i].1 = to at *
  have h2d : w.drew.cell? ⟨r, i * 2, none⟩ = some (.int .i64 to) := by simpa using h2
  have h3d : w.drew.cell? ⟨r, i * 2 + 1, none⟩ = some (.slice A b.length n) := by simpa using h3
  have hi' : (i : Int) < l.length := by omega
  clear hN h5 h4 h2 h3
  go_enter Try.func40, Try.ntmps40
  go_wp2_with fail
  refine (ris_yes _ l.length c i _ (by omega) hi').mono ?_
  rintro e w' ⟨rfl, rfl⟩
  go_wp2
  refine region_ord [0, 1, 2, 3, 4, 5, 6, 7, 8, 9, 10, 11, 12, 13, 14, 15, 16] [11, 15, 16] [5, 10] [] rfl (by kernel_rfl) ?_
  iterate 5
    refine ord_pure rfl rfl rfl rfl rfl (fun _ _ _ _ h => h) ?_ ?_ ?_ ?_ ?_
    rotate_left 2
    · intro w'; go_simp; with_reducible rfl
    · simp only [Act.put, List.setIfInBounds_toArray, List.set_cons_zero, List.set_cons_succ]; rfl
  refine ord_read rfl rfl rfl rfl rfl (fun _ _ _ _ h => h) ?_ ?_ ?_ ?_ ?_
  rotate_left 2
  · intro w' hg; have q := hg.cell h2d (fun h => h); go_simp; with_reducible rfl
  · simp only [Act.put, List.setIfInBounds_toArray, List.set_cons_zero, List.set_cons_succ]; rfl
  iterate 4
    refine ord_pure rfl rfl rfl rfl rfl (fun _ _ _ _ h => h) ?_ ?_ ?_ ?_ ?_
    rotate_left 2
    · intro w'; go_simp; with_reducible rfl
    · simp only [Act.put, List.setIfInBounds_toArray, List.set_cons_zero, List.set_cons_succ]; rfl
  refine ord_read rfl rfl rfl rfl rfl (fun _ _ _ _ h => h) ?_ ?_ ?_ ?_ ?_
  rotate_left 2
  · intro w' hg; have q := hg.cell h3d (fun h => h); go_simp; with_reducible rfl
  · simp only [Act.put, List.setIfInBounds_toArray, List.set_cons_zero, List.set_cons_succ]; rfl
  refine ord_call rfl rfl rfl rfl rfl Try.func42 rfl rfl [.slice (some ⟨r, 0, none⟩) l.length c, .int .i64 to, .slice A b.length n] rfl ?_
  refine HP.out.mono ?_
  rintro e w1 ⟨v', o, rfl, hg, hq⟩
  have Hq := Lib.hid hq
  clear hq
  refine ⟨_, rfl, fun _ => hg, ?_⟩
  simp only [Act.put, List.setIfInBounds_toArray, List.set_cons_zero, List.set_cons_succ]
  iterate 3
    refine ord_pure rfl rfl rfl rfl rfl (fun _ _ _ _ h => h) ?_ ?_ ?_ ?_ ?_
    rotate_left 2
    · intro w'; go_simp; with_reducible rfl
    · simp only [Act.put, List.setIfInBounds_toArray, List.set_cons_zero, List.set_cons_succ]; rfl
  iterate 2
    refine ord_set rfl rfl rfl rfl ?_ ?_ ?_ ?_ ?_
    rotate_left 2
    · go_simp; with_reducible rfl
    · simp only [Act.put, List.setIfInBounds_toArray, List.set_cons_zero, List.set_cons_succ]; rfl
  refine ord_nil ?_
  go_wp2
  go_ret2
  exact ⟨_, _, rfl, Hq.out⟩
end Go.Proofs.Ytimpnbkincgbmaa
