import Derived.Test.YtimpnbkincgbmaaNetO
set_option linter.unusedSimpArgs false
set_option linter.unusedVariables false
namespace Go.Proofs.Ytimpnbkincgbmaa
open Go.RowKit

/-- The net and the document's list, of one list. -/
structure St (W : World) (g : Nat) (l l2 : List G) (F R : Nat → Prop) (v : Value) (w : World) : Prop where
  net : Net g l F w
  ref : Ref l2 v R w
  ge : ∀ k, F k → W.heap.size ≤ k
  apart : ∀ k, R k → ¬ F k
  grow : Grow W w
theorem St.ge' {W : World} {g : Nat} {l l2 : List G} {F R : Nat → Prop} {v : Value} {w : World} (h : St W g l l2 F R v w) {w' : World} (hg : Grow w w') : St W g l l2 F R v w' :=
  ⟨h.net.keep hg (fun _ _ h => h), h.ref.grow hg, h.ge, h.apart, h.grow.grow hg⟩
theorem St.nets {W : World} {g : Nat} {l l2 l' : List G} {F R F' : Nat → Prop} {v : Value} {w w' : World} (h : St W g l l2 F R v w) (hN : Net g l' F' w') (hk : Keep F w w') (hF : ∀ k, F' k → F k ∨ w.heap.size ≤ k) : St W g l' l2 F' R v w' := by
  refine ⟨hN, h.ref.keep hk h.apart, fun k hk2 => (hF k hk2).elim (h.ge k) (fun h2 => Nat.le_trans h.grow.size h2), fun k hR hF' => ?_, ((h.grow.mono (fun _ h => h.elim)).trans hk (fun i hi => .inl hi) : Keep F W w').new h.ge⟩
  rcases hF k hF' with h1 | h1
  · exact h.apart k hR h1
  · have := h.ref.lt k hR
    omega
theorem St.refs {W : World} {g : Nat} {l l2 l' : List G} {F R R' C : Nat → Prop} {v v' : Value} {w w' : World} (h : St W g l l2 F R v w) (hC : ∀ k, C k → k < W.heap.size) (hR : Ref l' v' R' w') (hk : Grow w w') (hR' : ∀ k, R' k → R k ∨ C k ∨ w.heap.size ≤ k) : St W g l l' F R' v' w' := by
  refine ⟨h.net.keep hk (fun _ _ h => h), hR, h.ge, fun k h1 hF => ?_, h.grow.grow hk⟩
  rcases hR' k h1 with h2 | h2 | h2
  · exact h.apart k h2 hF
  · have := hC k h2
    have := h.ge k hF
    omega
  · have := h.net.lt k hF
    omega
theorem St.refs0 {W : World} {g : Nat} {l l2 l' : List G} {F R R' : Nat → Prop} {v v' : Value} {w w' : World} (h : St W g l l2 F R v w) (hR : Ref l' v' R' w') (hk : Grow w w') (hR' : ∀ k, R' k → R k ∨ w.heap.size ≤ k) : St W g l l' F R' v' w' :=
  h.refs (C := NoB) (fun _ h => h.elim) hR hk (fun k h => (hR' k h).elim (fun h => .inl h) (fun h => .inr (.inr h)))

set_option maxRecDepth 100000 in
set_option maxHeartbeats 2000000 in
theorem deed1 (W : World) (g : Nat) (l : List G) (F R C : Nat → Prop) (v : Value) (w : World) (hS : St W g l l F R v w) (k i : Int) (hk0 : 0 ≤ k) (hk1 : k ≤ 255) (hq : k % 8 = 1) (A : Option Addr) (c : Nat) (b : List Int) (hb : Foot (SliceR 1 (.slice A b.length c) b.length (u8s b)) w C) (hC : ∀ k, C k → k < W.heap.size) :
    Calls Try.prog 22 #[.pointer (some ⟨g, 0, none⟩), v, .agg #[.int .u8 k, .int .i64 i, .slice A b.length c]] w fun e w' => ∃ v', e = .returned (.tuple #[v', .bool true]) ∧ ∃ l' F' R', St W g l' l' F' R' v' w' := by
  have hw1 : Grow w (w.alloc (.cells #[.int .u8 k, .int .i64 i, .slice A b.length c] 41)) := (Keep.refl _ _).alloc _
  obtain ⟨A1, c1, rfl⟩ := hS.ref.slice
  have HS := Lib.hid (hS.ge' hw1)
  have Hb := Lib.hid (hb.grow hw1)
  have hd := heap_alloc_new w (.cells #[.int .u8 k, .int .i64 i, .slice A b.length c] 41)
  have hc0 : (w.alloc (.cells #[.int .u8 k, .int .i64 i, .slice A b.length c] 41)).cell? ⟨w.heap.size, 0, none⟩ = some (.int .u8 k) := World.news_of_block hd 0 _ rfl
  have hc1 : (w.alloc (.cells #[.int .u8 k, .int .i64 i, .slice A b.length c] 41)).cell? ⟨w.heap.size, 1, none⟩ = some (.int .i64 i) := World.news_of_block hd 1 _ rfl
  have hc2 : (w.alloc (.cells #[.int .u8 k, .int .i64 i, .slice A b.length c] 41)).cell? ⟨w.heap.size, 2, none⟩ = some (.slice A b.length c) := World.news_of_block hd 2 _ rfl
  clear hS hb hd hw1
  have q8 : 0 ≤ k % 8 ∧ k % 8 < 8 := by omega
  have q0 : (k % 8 == 0) = false := beq_eq_false_iff_ne.2 (by omega)
  have q1 : (k % 8 == 1) = true := beq_iff_eq.2 (by omega)
  by_cases h16 : 3 < k % 16
  all_goals
    go_enter Try.func22, Try.ntmps22
    go_wp2_with fail
    refine (rtwice_any l _ R _ HS.out.ref _).mono ?_
    rintro e w2 ⟨v2, R2, rfl, hR, hg, hR2⟩
    obtain ⟨A2, c2, rfl⟩ := hR.slice
    have HS2 := Lib.hid (HS.out.refs0 hR hg hR2)
    have c0' := hg.cell hc0 (fun h => h)
    have c1' := hg.cell hc1 (fun h => h)
    have c2' := hg.cell hc2 (fun h => h)
    clear hR hR2 hg
    go_wp2_with fail
    refine (ntwice_any g l F w2 HS2.out.net _).mono ?_
    rintro e w3 ⟨rfl, F3, hN, hk, hF⟩
    have HS3 := Lib.hid (HS2.out.nets hN hk hF)
    clear hN hk hF
    go_wp2
    go_ret2
    exact ⟨_, by simp, _, F3, R2, HS3.out⟩

set_option maxRecDepth 100000 in
set_option maxHeartbeats 2000000 in
theorem deed2 (W : World) (g : Nat) (l : List G) (F R C : Nat → Prop) (v : Value) (w : World) (hS : St W g l l F R v w) (k i : Int) (hk0 : 0 ≤ k) (hk1 : k ≤ 255) (hq : k % 8 = 2) (A : Option Addr) (c : Nat) (b : List Int) (hb : Foot (SliceR 1 (.slice A b.length c) b.length (u8s b)) w C) (hC : ∀ k, C k → k < W.heap.size) :
    Calls Try.prog 22 #[.pointer (some ⟨g, 0, none⟩), v, .agg #[.int .u8 k, .int .i64 i, .slice A b.length c]] w fun e w' => ∃ v', e = .returned (.tuple #[v', .bool true]) ∧ ∃ l' F' R', St W g l' l' F' R' v' w' := by
  have hw1 : Grow w (w.alloc (.cells #[.int .u8 k, .int .i64 i, .slice A b.length c] 41)) := (Keep.refl _ _).alloc _
  obtain ⟨A1, c1, rfl⟩ := hS.ref.slice
  have HS := Lib.hid (hS.ge' hw1)
  have Hb := Lib.hid (hb.grow hw1)
  have hd := heap_alloc_new w (.cells #[.int .u8 k, .int .i64 i, .slice A b.length c] 41)
  have hc0 : (w.alloc (.cells #[.int .u8 k, .int .i64 i, .slice A b.length c] 41)).cell? ⟨w.heap.size, 0, none⟩ = some (.int .u8 k) := World.news_of_block hd 0 _ rfl
  have hc1 : (w.alloc (.cells #[.int .u8 k, .int .i64 i, .slice A b.length c] 41)).cell? ⟨w.heap.size, 1, none⟩ = some (.int .i64 i) := World.news_of_block hd 1 _ rfl
  have hc2 : (w.alloc (.cells #[.int .u8 k, .int .i64 i, .slice A b.length c] 41)).cell? ⟨w.heap.size, 2, none⟩ = some (.slice A b.length c) := World.news_of_block hd 2 _ rfl
  clear hS hb hd hw1
  have q8 : 0 ≤ k % 8 ∧ k % 8 < 8 := by omega
  have q0 : (k % 8 == 0) = false := beq_eq_false_iff_ne.2 (by omega)
  have q1 : (k % 8 == 1) = false := beq_eq_false_iff_ne.2 (by omega)
  have q2 : (k % 8 == 2) = true := beq_iff_eq.2 (by omega)
  by_cases h16 : 3 < k % 16
  all_goals
    go_enter Try.func22, Try.ntmps22
    go_wp2_with fail
    refine (rbend_any l _ R _ HS.out.ref _ A c b C Hb.out).mono ?_
    rintro e w2 ⟨v2, R2, rfl, hR, hg, hR2⟩
    obtain ⟨A2, c2, rfl⟩ := hR.slice
    have HS2 := Lib.hid (HS.out.refs hC hR hg hR2)
    have Hb2 := Lib.hid (Hb.out.now.grow hg)
    have c0' := hg.cell hc0 (fun h => h)
    have c1' := hg.cell hc1 (fun h => h)
    have c2' := hg.cell hc2 (fun h => h)
    clear hR hR2 hg
    go_wp2_with fail
    refine (nbend_any g l F w2 HS2.out.net _ A c b Hb2.out).mono ?_
    rintro e w3 ⟨rfl, F3, hN, hk, hF⟩
    have HS3 := Lib.hid (HS2.out.nets hN hk hF)
    clear hN hk hF
    go_wp2
    go_ret2
    exact ⟨_, by simp, _, F3, R2, HS3.out⟩

set_option maxRecDepth 100000 in
set_option maxHeartbeats 2000000 in
theorem deed3 (W : World) (g : Nat) (l : List G) (F R C : Nat → Prop) (v : Value) (w : World) (hS : St W g l l F R v w) (k i : Int) (hk0 : 0 ≤ k) (hk1 : k ≤ 255) (hq : k % 8 = 3) (A : Option Addr) (c : Nat) (b : List Int) (hb : Foot (SliceR 1 (.slice A b.length c) b.length (u8s b)) w C) (hC : ∀ k, C k → k < W.heap.size) :
    Calls Try.prog 22 #[.pointer (some ⟨g, 0, none⟩), v, .agg #[.int .u8 k, .int .i64 i, .slice A b.length c]] w fun e w' => ∃ v', e = .returned (.tuple #[v', .bool true]) ∧ ∃ l' F' R', St W g l' l' F' R' v' w' := by
  have hw1 : Grow w (w.alloc (.cells #[.int .u8 k, .int .i64 i, .slice A b.length c] 41)) := (Keep.refl _ _).alloc _
  obtain ⟨A1, c1, rfl⟩ := hS.ref.slice
  have HS := Lib.hid (hS.ge' hw1)
  have Hb := Lib.hid (hb.grow hw1)
  have hd := heap_alloc_new w (.cells #[.int .u8 k, .int .i64 i, .slice A b.length c] 41)
  have hc0 : (w.alloc (.cells #[.int .u8 k, .int .i64 i, .slice A b.length c] 41)).cell? ⟨w.heap.size, 0, none⟩ = some (.int .u8 k) := World.news_of_block hd 0 _ rfl
  have hc1 : (w.alloc (.cells #[.int .u8 k, .int .i64 i, .slice A b.length c] 41)).cell? ⟨w.heap.size, 1, none⟩ = some (.int .i64 i) := World.news_of_block hd 1 _ rfl
  have hc2 : (w.alloc (.cells #[.int .u8 k, .int .i64 i, .slice A b.length c] 41)).cell? ⟨w.heap.size, 2, none⟩ = some (.slice A b.length c) := World.news_of_block hd 2 _ rfl
  clear hS hb hd hw1
  have q8 : 0 ≤ k % 8 ∧ k % 8 < 8 := by omega
  have q0 : (k % 8 == 0) = false := beq_eq_false_iff_ne.2 (by omega)
  have q1 : (k % 8 == 1) = false := beq_eq_false_iff_ne.2 (by omega)
  have q2 : (k % 8 == 2) = false := beq_eq_false_iff_ne.2 (by omega)
  have q3 : (k % 8 == 3) = true := beq_iff_eq.2 (by omega)
  by_cases h16 : 3 < k % 16
  all_goals
    go_enter Try.func22, Try.ntmps22
    go_wp2_with fail
    refine (rpush_any l _ R _ HS.out.ref _ A c b C Hb.out).mono ?_
    rintro e w2 ⟨v2, R2, rfl, hR, hg, hR2⟩
    obtain ⟨A2, c2, rfl⟩ := hR.slice
    have HS2 := Lib.hid (HS.out.refs hC hR hg hR2)
    have Hb2 := Lib.hid (Hb.out.now.grow hg)
    have c0' := hg.cell hc0 (fun h => h)
    have c1' := hg.cell hc1 (fun h => h)
    have c2' := hg.cell hc2 (fun h => h)
    clear hR hR2 hg
    go_wp2_with fail
    refine (npush_any g l F w2 HS2.out.net _ A c b Hb2.out).mono ?_
    rintro e w3 ⟨rfl, F3, hN, hk, hF⟩
    have HS3 := Lib.hid (HS2.out.nets hN hk hF)
    clear hN hk hF
    go_wp2
    go_ret2
    exact ⟨_, by simp, _, F3, R2, HS3.out⟩

set_option maxRecDepth 100000 in
set_option maxHeartbeats 2000000 in
theorem deed4 (W : World) (g : Nat) (l : List G) (F R C : Nat → Prop) (v : Value) (w : World) (hS : St W g l l F R v w) (k i : Int) (hk0 : 0 ≤ k) (hk1 : k ≤ 255) (hq : ¬ (k % 8 = 0 ∨ k % 8 = 1 ∨ k % 8 = 2 ∨ k % 8 = 3)) (A : Option Addr) (c : Nat) (b : List Int) (hb : Foot (SliceR 1 (.slice A b.length c) b.length (u8s b)) w C) (hC : ∀ k, C k → k < W.heap.size) :
    Calls Try.prog 22 #[.pointer (some ⟨g, 0, none⟩), v, .agg #[.int .u8 k, .int .i64 i, .slice A b.length c]] w fun e w' => ∃ v', e = .returned (.tuple #[v', .bool true]) ∧ ∃ l' F' R', St W g l' l' F' R' v' w' := by
  have hw1 : Grow w (w.alloc (.cells #[.int .u8 k, .int .i64 i, .slice A b.length c] 41)) := (Keep.refl _ _).alloc _
  obtain ⟨A1, c1, rfl⟩ := hS.ref.slice
  have HS := Lib.hid (hS.ge' hw1)
  have Hb := Lib.hid (hb.grow hw1)
  have hd := heap_alloc_new w (.cells #[.int .u8 k, .int .i64 i, .slice A b.length c] 41)
  have hc0 : (w.alloc (.cells #[.int .u8 k, .int .i64 i, .slice A b.length c] 41)).cell? ⟨w.heap.size, 0, none⟩ = some (.int .u8 k) := World.news_of_block hd 0 _ rfl
  have hc1 : (w.alloc (.cells #[.int .u8 k, .int .i64 i, .slice A b.length c] 41)).cell? ⟨w.heap.size, 1, none⟩ = some (.int .i64 i) := World.news_of_block hd 1 _ rfl
  have hc2 : (w.alloc (.cells #[.int .u8 k, .int .i64 i, .slice A b.length c] 41)).cell? ⟨w.heap.size, 2, none⟩ = some (.slice A b.length c) := World.news_of_block hd 2 _ rfl
  clear hS hb hd hw1
  have q8 : 0 ≤ k % 8 ∧ k % 8 < 8 := by omega
  have q0 : (k % 8 == 0) = false := beq_eq_false_iff_ne.2 (by omega)
  have q1 : (k % 8 == 1) = false := beq_eq_false_iff_ne.2 (by omega)
  have q2 : (k % 8 == 2) = false := beq_eq_false_iff_ne.2 (by omega)
  have q3 : (k % 8 == 3) = false := beq_eq_false_iff_ne.2 (by omega)
  clear hq
  by_cases h16 : 3 < k % 16
  all_goals
    go_enter Try.func22, Try.ntmps22
    go_wp2_with fail
    refine (rpush_any l _ R _ HS.out.ref _ A c b C Hb.out).mono ?_
    rintro e w2 ⟨v2, R2, rfl, hR, hg, hR2⟩
    obtain ⟨A2, c2, rfl⟩ := hR.slice
    have HS2 := Lib.hid (HS.out.refs hC hR hg hR2)
    have Hb2 := Lib.hid (Hb.out.now.grow hg)
    have c0' := hg.cell hc0 (fun h => h)
    have c1' := hg.cell hc1 (fun h => h)
    have c2' := hg.cell hc2 (fun h => h)
    clear hR hR2 hg
    go_wp2_with fail
    refine (npush_any g l F w2 HS2.out.net _ A c b Hb2.out).mono ?_
    rintro e w3 ⟨rfl, F3, hN, hk, hF⟩
    have HS3 := Lib.hid (HS2.out.nets hN hk hF)
    clear hN hk hF
    go_wp2
    go_ret2
    exact ⟨_, by simp, _, F3, R2, HS3.out⟩

set_option maxRecDepth 100000 in
set_option maxHeartbeats 2000000 in
theorem deed0 (W : World) (g : Nat) (l : List G) (F R C : Nat → Prop) (v : Value) (w : World) (hS : St W g l l F R v w) (k i : Int) (hk0 : 0 ≤ k) (hk1 : k ≤ 255) (hq : k % 8 = 0) (A : Option Addr) (c : Nat) (b : List Int) (hb : Foot (SliceR 1 (.slice A b.length c) b.length (u8s b)) w C) (hC : ∀ k, C k → k < W.heap.size) :
    Calls Try.prog 22 #[.pointer (some ⟨g, 0, none⟩), v, .agg #[.int .u8 k, .int .i64 i, .slice A b.length c]] w fun e w' => ∃ v', e = .returned (.tuple #[v', .bool true]) ∧ ∃ l' F' R', St W g l' l' F' R' v' w' := by
  have hw1 : Grow w (w.alloc (.cells #[.int .u8 k, .int .i64 i, .slice A b.length c] 41)) := (Keep.refl _ _).alloc _
  obtain ⟨A1, c1, rfl⟩ := hS.ref.slice
  have HS := Lib.hid (hS.ge' hw1)
  have Hb := Lib.hid (hb.grow hw1)
  have hd := heap_alloc_new w (.cells #[.int .u8 k, .int .i64 i, .slice A b.length c] 41)
  have hc0 : (w.alloc (.cells #[.int .u8 k, .int .i64 i, .slice A b.length c] 41)).cell? ⟨w.heap.size, 0, none⟩ = some (.int .u8 k) := World.news_of_block hd 0 _ rfl
  have hc1 : (w.alloc (.cells #[.int .u8 k, .int .i64 i, .slice A b.length c] 41)).cell? ⟨w.heap.size, 1, none⟩ = some (.int .i64 i) := World.news_of_block hd 1 _ rfl
  have hc2 : (w.alloc (.cells #[.int .u8 k, .int .i64 i, .slice A b.length c] 41)).cell? ⟨w.heap.size, 2, none⟩ = some (.slice A b.length c) := World.news_of_block hd 2 _ rfl
  clear hS hb hd hw1
  have q8 : 0 ≤ k % 8 ∧ k % 8 < 8 := by omega
  have q0 : (k % 8 == 0) = true := beq_iff_eq.2 (by omega)
  by_cases h16 : 3 < k % 16
  · skip
    go_enter Try.func22, Try.ntmps22
    go_wp2_with fail
    refine (take_any g l F _ HS.out.net _).mono ?_
    rintro e w2 ⟨A5, c5, rfl, hs5, F2, hN, hk, hF⟩
    have HS2 := Lib.hid (HS.out.nets hN hk hF)
    have Hs5 := Lib.hid hs5
    clear hs5 hN hk hF
    go_wp2_with fail
    refine (rat_any l _ R w2 HS2.out.ref _).mono ?_
    rintro e w3 ⟨A6, c6, rfl, hs6, hg⟩
    have hg2 := ((Keep.refl NoB w3).alloc (.cells #[.int .i64 (tk l (i.tmod 9)).1, .slice A6 (tk l (i.tmod 9)).2.length c6] 43)).drew
    have Hs5' := Lib.hid ((Hs5.out.grow hg).grow hg2)
    have Hs6 := Lib.hid (hs6.grow hg2)
    have HS3 := Lib.hid ((HS2.out.ge' hg).ge' hg2)
    have hd := heap_alloc_new w3 (.cells #[.int .i64 (tk l (i.tmod 9)).1, .slice A6 (tk l (i.tmod 9)).2.length c6] 43)
    have hx0 : (w3.alloc (.cells #[.int .i64 (tk l (i.tmod 9)).1, .slice A6 (tk l (i.tmod 9)).2.length c6] 43)).drew.cell? ⟨w3.heap.size, 0, none⟩ = some (.int .i64 (tk l (i.tmod 9)).1) := World.news_of_block hd 0 _ rfl
    have hx1 : (w3.alloc (.cells #[.int .i64 (tk l (i.tmod 9)).1, .slice A6 (tk l (i.tmod 9)).2.length c6] 43)).drew.cell? ⟨w3.heap.size, 1, none⟩ = some (.slice A6 (tk l (i.tmod 9)).2.length c6) := World.news_of_block hd 1 _ rfl
    clear hd hs6 hg2 Hs5
    go_wp2
    refine region_ord [0, 1, 3, 4, 5, 6, 2, 7, 8, 9, 10, 11, 12, 13, 14, 15, 16, 17, 18, 19, 20, 21] [2, 20, 21] [5, 9, 11, 12] [] rfl (by kernel_rfl) ?_
    iterate 4
      refine ord_pure rfl rfl rfl rfl rfl (fun _ _ _ _ h => h) ?_ ?_ ?_ ?_ ?_
      rotate_left 2
      · intro w'; go_simp; with_reducible rfl
      · simp only [Act.put, List.setIfInBounds_toArray, List.set_cons_zero, List.set_cons_succ]; rfl
    refine ord_read rfl rfl rfl rfl rfl (fun _ _ _ _ h => h) ?_ ?_ ?_ ?_ ?_
    rotate_left 2
    · intro w' hg; have q := hg.cell hx0 (fun h => h); go_simp; with_reducible rfl
    · simp only [Act.put, List.setIfInBounds_toArray, List.set_cons_zero, List.set_cons_succ]; rfl
    refine ord_pure rfl rfl rfl rfl rfl (fun _ _ _ _ h => h) ?_ ?_ ?_ ?_ ?_
    rotate_left 2
    · intro w'; go_simp; with_reducible rfl
    · simp only [Act.put, List.setIfInBounds_toArray, List.set_cons_zero, List.set_cons_succ]; rfl
    refine ord_call rfl rfl rfl rfl rfl Try.func39 rfl rfl [.slice A1 l.length c1, .int .i64 (i.tmod 9)] rfl ?_
    refine (rdrop_any l _ R _ HS3.out.ref (i.tmod 9)).mono ?_
    rintro e w4 ⟨v4, R4, rfl, hR, hg4, hR4⟩
    obtain ⟨A7, c7, rfl⟩ := hR.slice
    have HS4 := Lib.hid (HS3.out.refs0 hR hg4 hR4)
    have Hs7 := Lib.hid (Hs5'.out.grow hg4)
    have Hs8 := Lib.hid (Hs6.out.grow hg4)
    have hx1' := hg4.cell hx1 (fun h => h)
    refine ⟨_, rfl, fun _ => hg4, ?_⟩
    clear hR hg4 hR4 hx0 hx1 Hs5' Hs6 HS3
    simp only [Act.put, List.setIfInBounds_toArray, List.set_cons_zero, List.set_cons_succ]
    refine ord_pure rfl rfl rfl rfl rfl (fun _ _ _ _ h => h) ?_ ?_ ?_ ?_ ?_
    rotate_left 2
    · intro w'; go_simp; with_reducible rfl
    · simp only [Act.put, List.setIfInBounds_toArray, List.set_cons_zero, List.set_cons_succ]; rfl
    refine ord_pureG rfl rfl rfl rfl rfl (fun _ _ _ _ h => h) ?_ ?_ ?_ ?_ ?_
    rotate_left 2
    · intro w'; go_simp; with_reducible rfl
    · simp only [Act.put, List.setIfInBounds_toArray, List.set_cons_zero, List.set_cons_succ]; rfl
    refine ord_readG rfl rfl rfl rfl rfl (fun _ _ _ _ h => h) ?_ ?_ ?_ ?_ ?_
    rotate_left 2
    · intro w' hg; have q := conv_str (Hs7.out.grow hg); go_simp; with_reducible rfl
    · simp only [Act.put, List.setIfInBounds_toArray, List.set_cons_zero, List.set_cons_succ]; rfl
    refine ord_pureG rfl rfl rfl rfl rfl (fun _ _ _ _ h => h) ?_ ?_ ?_ ?_ ?_
    rotate_left 2
    · intro w'; go_simp; with_reducible rfl
    · simp only [Act.put, List.setIfInBounds_toArray, List.set_cons_zero, List.set_cons_succ]; rfl
    refine ord_readG rfl rfl rfl rfl rfl (fun _ _ _ _ h => h) ?_ ?_ ?_ ?_ ?_
    rotate_left 2
    · intro w' hg; have q := hg.cell hx1' (fun h => h); go_simp; with_reducible rfl
    · simp only [Act.put, List.setIfInBounds_toArray, List.set_cons_zero, List.set_cons_succ]; rfl
    refine ord_readG rfl rfl rfl rfl rfl (fun _ _ _ _ h => h) ?_ ?_ ?_ ?_ ?_
    rotate_left 2
    · intro w' hg; have q := conv_str (Hs8.out.grow hg); go_simp; with_reducible rfl
    · simp only [Act.put, List.setIfInBounds_toArray, List.set_cons_zero, List.set_cons_succ]; rfl
    refine ord_pureG rfl rfl rfl rfl rfl (fun _ _ _ _ h => h) ?_ ?_ ?_ ?_ ?_
    rotate_left 2
    · intro w'; go_simp; with_reducible rfl
    · simp only [Act.put, List.setIfInBounds_toArray, List.set_cons_zero, List.set_cons_succ]; rfl
    iterate 2
      refine ord_pure rfl rfl rfl rfl rfl (fun _ _ _ _ h => h) ?_ ?_ ?_ ?_ ?_
      rotate_left 2
      · intro w'; go_simp; with_reducible rfl
      · simp only [Act.put, List.setIfInBounds_toArray, List.set_cons_zero, List.set_cons_succ]; rfl
    iterate 3
      refine ord_pureG rfl rfl rfl rfl rfl (fun _ _ _ _ h => h) ?_ ?_ ?_ ?_ ?_
      rotate_left 2
      · intro w'; go_simp; with_reducible rfl
      · simp only [Act.put, List.setIfInBounds_toArray, List.set_cons_zero, List.set_cons_succ]; rfl
    refine ord_pure rfl rfl rfl rfl rfl (fun _ _ _ _ h => h) ?_ ?_ ?_ ?_ ?_
    rotate_left 2
    · intro w'; go_simp; with_reducible rfl
    · simp only [Act.put, List.setIfInBounds_toArray, List.set_cons_zero, List.set_cons_succ]; rfl
    iterate 2
      refine ord_set rfl rfl rfl rfl ?_ ?_ ?_ ?_ ?_
      rotate_left 2
      · go_simp; with_reducible rfl
      · simp only [Act.put, List.setIfInBounds_toArray, List.set_cons_zero, List.set_cons_succ]; rfl
    refine ord_nil ?_
    go_wp2
    go_ret2
    exact ⟨_, by simp, _, F2, R4, HS4.out⟩
  · skip
    go_enter Try.func22, Try.ntmps22
    go_wp2_with fail
    refine (take_any g l F _ HS.out.net _).mono ?_
    rintro e w2 ⟨A5, c5, rfl, hs5, F2, hN, hk, hF⟩
    have HS2 := Lib.hid (HS.out.nets hN hk hF)
    have Hs5 := Lib.hid hs5
    clear hs5 hN hk hF
    go_wp2_with fail
    refine (rat_any l _ R w2 HS2.out.ref _).mono ?_
    rintro e w3 ⟨A6, c6, rfl, hs6, hg⟩
    have hg2 := ((Keep.refl NoB w3).alloc (.cells #[.int .i64 (tk l i).1, .slice A6 (tk l i).2.length c6] 43)).drew
    have Hs5' := Lib.hid ((Hs5.out.grow hg).grow hg2)
    have Hs6 := Lib.hid (hs6.grow hg2)
    have HS3 := Lib.hid ((HS2.out.ge' hg).ge' hg2)
    have hd := heap_alloc_new w3 (.cells #[.int .i64 (tk l i).1, .slice A6 (tk l i).2.length c6] 43)
    have hx0 : (w3.alloc (.cells #[.int .i64 (tk l i).1, .slice A6 (tk l i).2.length c6] 43)).drew.cell? ⟨w3.heap.size, 0, none⟩ = some (.int .i64 (tk l i).1) := World.news_of_block hd 0 _ rfl
    have hx1 : (w3.alloc (.cells #[.int .i64 (tk l i).1, .slice A6 (tk l i).2.length c6] 43)).drew.cell? ⟨w3.heap.size, 1, none⟩ = some (.slice A6 (tk l i).2.length c6) := World.news_of_block hd 1 _ rfl
    clear hd hs6 hg2 Hs5
    go_wp2
    refine region_ord [0, 1, 3, 4, 5, 6, 2, 7, 8, 9, 10, 11, 12, 13, 14, 15, 16, 17, 18, 19, 20, 21] [2, 20, 21] [5, 9, 11, 12] [] rfl (by kernel_rfl) ?_
    iterate 4
      refine ord_pure rfl rfl rfl rfl rfl (fun _ _ _ _ h => h) ?_ ?_ ?_ ?_ ?_
      rotate_left 2
      · intro w'; go_simp; with_reducible rfl
      · simp only [Act.put, List.setIfInBounds_toArray, List.set_cons_zero, List.set_cons_succ]; rfl
    refine ord_read rfl rfl rfl rfl rfl (fun _ _ _ _ h => h) ?_ ?_ ?_ ?_ ?_
    rotate_left 2
    · intro w' hg; have q := hg.cell hx0 (fun h => h); go_simp; with_reducible rfl
    · simp only [Act.put, List.setIfInBounds_toArray, List.set_cons_zero, List.set_cons_succ]; rfl
    refine ord_pure rfl rfl rfl rfl rfl (fun _ _ _ _ h => h) ?_ ?_ ?_ ?_ ?_
    rotate_left 2
    · intro w'; go_simp; with_reducible rfl
    · simp only [Act.put, List.setIfInBounds_toArray, List.set_cons_zero, List.set_cons_succ]; rfl
    refine ord_call rfl rfl rfl rfl rfl Try.func39 rfl rfl [.slice A1 l.length c1, .int .i64 i] rfl ?_
    refine (rdrop_any l _ R _ HS3.out.ref i).mono ?_
    rintro e w4 ⟨v4, R4, rfl, hR, hg4, hR4⟩
    obtain ⟨A7, c7, rfl⟩ := hR.slice
    have HS4 := Lib.hid (HS3.out.refs0 hR hg4 hR4)
    have Hs7 := Lib.hid (Hs5'.out.grow hg4)
    have Hs8 := Lib.hid (Hs6.out.grow hg4)
    have hx1' := hg4.cell hx1 (fun h => h)
    refine ⟨_, rfl, fun _ => hg4, ?_⟩
    clear hR hg4 hR4 hx0 hx1 Hs5' Hs6 HS3
    simp only [Act.put, List.setIfInBounds_toArray, List.set_cons_zero, List.set_cons_succ]
    refine ord_pure rfl rfl rfl rfl rfl (fun _ _ _ _ h => h) ?_ ?_ ?_ ?_ ?_
    rotate_left 2
    · intro w'; go_simp; with_reducible rfl
    · simp only [Act.put, List.setIfInBounds_toArray, List.set_cons_zero, List.set_cons_succ]; rfl
    refine ord_pureG rfl rfl rfl rfl rfl (fun _ _ _ _ h => h) ?_ ?_ ?_ ?_ ?_
    rotate_left 2
    · intro w'; go_simp; with_reducible rfl
    · simp only [Act.put, List.setIfInBounds_toArray, List.set_cons_zero, List.set_cons_succ]; rfl
    refine ord_readG rfl rfl rfl rfl rfl (fun _ _ _ _ h => h) ?_ ?_ ?_ ?_ ?_
    rotate_left 2
    · intro w' hg; have q := conv_str (Hs7.out.grow hg); go_simp; with_reducible rfl
    · simp only [Act.put, List.setIfInBounds_toArray, List.set_cons_zero, List.set_cons_succ]; rfl
    refine ord_pureG rfl rfl rfl rfl rfl (fun _ _ _ _ h => h) ?_ ?_ ?_ ?_ ?_
    rotate_left 2
    · intro w'; go_simp; with_reducible rfl
    · simp only [Act.put, List.setIfInBounds_toArray, List.set_cons_zero, List.set_cons_succ]; rfl
    refine ord_readG rfl rfl rfl rfl rfl (fun _ _ _ _ h => h) ?_ ?_ ?_ ?_ ?_
    rotate_left 2
    · intro w' hg; have q := hg.cell hx1' (fun h => h); go_simp; with_reducible rfl
    · simp only [Act.put, List.setIfInBounds_toArray, List.set_cons_zero, List.set_cons_succ]; rfl
    refine ord_readG rfl rfl rfl rfl rfl (fun _ _ _ _ h => h) ?_ ?_ ?_ ?_ ?_
    rotate_left 2
    · intro w' hg; have q := conv_str (Hs8.out.grow hg); go_simp; with_reducible rfl
    · simp only [Act.put, List.setIfInBounds_toArray, List.set_cons_zero, List.set_cons_succ]; rfl
    refine ord_pureG rfl rfl rfl rfl rfl (fun _ _ _ _ h => h) ?_ ?_ ?_ ?_ ?_
    rotate_left 2
    · intro w'; go_simp; with_reducible rfl
    · simp only [Act.put, List.setIfInBounds_toArray, List.set_cons_zero, List.set_cons_succ]; rfl
    iterate 2
      refine ord_pure rfl rfl rfl rfl rfl (fun _ _ _ _ h => h) ?_ ?_ ?_ ?_ ?_
      rotate_left 2
      · intro w'; go_simp; with_reducible rfl
      · simp only [Act.put, List.setIfInBounds_toArray, List.set_cons_zero, List.set_cons_succ]; rfl
    iterate 3
      refine ord_pureG rfl rfl rfl rfl rfl (fun _ _ _ _ h => h) ?_ ?_ ?_ ?_ ?_
      rotate_left 2
      · intro w'; go_simp; with_reducible rfl
      · simp only [Act.put, List.setIfInBounds_toArray, List.set_cons_zero, List.set_cons_succ]; rfl
    refine ord_pure rfl rfl rfl rfl rfl (fun _ _ _ _ h => h) ?_ ?_ ?_ ?_ ?_
    rotate_left 2
    · intro w'; go_simp; with_reducible rfl
    · simp only [Act.put, List.setIfInBounds_toArray, List.set_cons_zero, List.set_cons_succ]; rfl
    iterate 2
      refine ord_set rfl rfl rfl rfl ?_ ?_ ?_ ?_ ?_
      rotate_left 2
      · go_simp; with_reducible rfl
      · simp only [Act.put, List.setIfInBounds_toArray, List.set_cons_zero, List.set_cons_succ]; rfl
    refine ord_nil ?_
    go_wp2
    go_ret2
    exact ⟨_, by simp, _, F2, R4, HS4.out⟩

theorem deed_calls (W : World) (g : Nat) (l : List G) (F R C : Nat → Prop) (v : Value) (w : World) (hS : St W g l l F R v w) (k i : Int) (hk0 : 0 ≤ k) (hk1 : k ≤ 255) (A : Option Addr) (c : Nat) (b : List Int) (hb : Foot (SliceR 1 (.slice A b.length c) b.length (u8s b)) w C) (hC : ∀ k, C k → k < W.heap.size) :
    Calls Try.prog 22 #[.pointer (some ⟨g, 0, none⟩), v, .agg #[.int .u8 k, .int .i64 i, .slice A b.length c]] w fun e w' => ∃ v', e = .returned (.tuple #[v', .bool true]) ∧ ∃ l' F' R', St W g l' l' F' R' v' w' := by
  by_cases h1 : k % 8 = 1
  · exact deed1 W g l F R C v w hS k i hk0 hk1 h1 A c b hb hC
  by_cases h2 : k % 8 = 2
  · exact deed2 W g l F R C v w hS k i hk0 hk1 h2 A c b hb hC
  by_cases h3 : k % 8 = 3
  · exact deed3 W g l F R C v w hS k i hk0 hk1 h3 A c b hb hC
  by_cases h0 : k % 8 = 0
  · exact deed0 W g l F R C v w hS k i hk0 hk1 h0 A c b hb hC
  · exact deed4 W g l F R C v w hS k i hk0 hk1 (by omega) A c b hb hC
end Go.Proofs.Ytimpnbkincgbmaa
